/- The text that leading writes, as readFloat takes it apart; what is read of it is the number itself, nearest. -/
import Derived.Test.YtdfodfflkmcgpaaGreatDoorZQd
import Derived.Test.YtdfodfflkmcgpaaGreatDoorZQc
import Derived.Test.YtdfodfflkmcgpaaGreatDoorZQ12
import Derived.Test.YtdfodfflkmcgpaaGreatDoorZQa
import Derived.Test.YtdfodfflkmcgpaaGreatDoorZQ15
namespace Go.Proofs.YtdfodfflkmcgpaaGreatDoor
open Go.RowKit Go.Sort Near Parse
set_option linter.unusedVariables false
set_option maxRecDepth 100000
theorem dec_all (u : Nat) : (∀ c ∈ Lib.decDigits u, isDig c) ∧ natOf (Lib.decDigits u) = u ∧ Lib.decDigits u ≠ [] := by
  induction u using Nat.strongRecOn with
  | _ u ih =>
    by_cases h : u < 10
    · have e : Lib.decDigits u = [UInt8.ofNat (48 + u)] := by rw [Lib.decDigits, dif_pos h]
      have e2 : (UInt8.ofNat (48 + u)).toNat = 48 + u := by simp; omega
      rw [e]
      refine ⟨fun c hc => ?_, ?_, by simp⟩
      · rw [List.mem_singleton.1 hc]; unfold isDig; omega
      · rw [show [UInt8.ofNat (48 + u)] = [] ++ [UInt8.ofNat (48 + u)] from rfl, natOf_snoc, e2, natOf_nil]; omega
    · have e : Lib.decDigits u = Lib.decDigits (u / 10) ++ [UInt8.ofNat (48 + u % 10)] := by rw [Lib.decDigits, dif_neg h]
      have e2 : (UInt8.ofNat (48 + u % 10)).toNat = 48 + u % 10 := by simp; omega
      obtain ⟨h1, h2, h3⟩ := ih (u / 10) (by omega)
      rw [e]
      refine ⟨fun c hc => ?_, ?_, by simp⟩
      · rcases List.mem_append.1 hc with hc | hc
        · exact h1 c hc
        · rw [List.mem_singleton.1 hc]; unfold isDig; omega
      · rw [natOf_snoc, e2, h2]; omega
theorem at_app {a b : List UInt8} {n k : Nat} (hn : n = a.length + k) : (a ++ b)[n]? = b[k]? := by
  rw [hn, List.getElem?_append_right (by omega)]
  congr 1; omega
theorem lead_of (neg : Bool) (D : List UInt8) (pow : Int) (hD : ∀ c ∈ D, isDig c) (hne : D ≠ []) (hroom : (leadText neg D pow).length ≤ 1000000000) :
    ∃ j0, Lead (strL (leadText neg D pow)) neg neg.toNat D (decide (pow < 0)) j0 (Lib.decDigits pow.natAbs) := by
  obtain ⟨d0, ds, rfl⟩ : ∃ a l, D = a :: l := by
    cases D with
    | nil => exact absurd rfl hne
    | cons a l => exact ⟨a, l, rfl⟩
  obtain ⟨x1, x2, x3⟩ := dec_all pow.natAbs
  obtain ⟨S, hS⟩ : ∃ S : List UInt8, S = if neg then [45] else [] := ⟨_, rfl⟩
  obtain ⟨E, hE⟩ : ∃ E : List UInt8, E = if pow < 0 then [45] else [] := ⟨_, rfl⟩
  have hSl : S.length = neg.toNat := by rw [hS]; cases neg <;> rfl
  have hEl : E.length = (decide (pow < 0)).toNat := by
    rw [hE]
    by_cases h : pow < 0
    · rw [if_pos h, decide_eq_true h]; rfl
    · rw [if_neg h, decide_eq_false h]; rfl
  have hit : Lib.itoa pow = E ++ Lib.decDigits pow.natAbs := by
    unfold Lib.itoa
    rw [hE]
    by_cases h : pow < 0
    · rw [if_pos h, if_pos h]; rfl
    · rw [if_neg h, if_neg h, show pow.toNat = pow.natAbs by omega]; rfl
  have hl : leadText neg (d0 :: ds) pow = S ++ ([d0, 46] ++ (ds ++ ([101] ++ (E ++ Lib.decDigits pow.natAbs)))) := by
    unfold leadText
    rw [hit, hS]
    simp
  generalize hX : Lib.decDigits pow.natAbs = X at *
  rw [hl] at hroom ⊢
  refine ⟨neg.toNat + 2 + (ds.length + 1) + (decide (pow < 0)).toNat, ?_⟩
  have hlist := strL_list (S ++ ([d0, 46] ++ (ds ++ ([101] ++ (E ++ X)))))
  refine ⟨fun h => ?_, rfl, ?_, ?_, fun k hk1 hk2 => ?_, ?_, fun h => ?_, rfl, fun j hj => ?_, ?_, hD, x1, hne, x3, ?_⟩
  · rw [hlist, hS, if_pos h]; rfl
  · rw [hlist, at_app (k := 0) (by rw [hSl]; rfl)]; rfl
  · rw [hlist, at_app (k := 1) (by rw [hSl])]; rfl
  · rw [hlist, at_app (k := 1 + k) (by rw [hSl]; omega), at_app (k := k - 1) (by simp; omega)]
    have hk3 : k - 1 < ds.length := by simp at hk2; omega
    rw [List.getElem?_append_left hk3]
    obtain ⟨y, rfl⟩ : ∃ y, k = y + 1 := ⟨k - 1, by omega⟩
    rfl
  · rw [hlist, at_app (k := 2 + ds.length) (by rw [hSl]; simp <;> omega), at_app (k := ds.length) (by simp <;> omega), at_app (k := 0) (by simp)]; rfl
  · rw [hlist, at_app (k := 2 + (ds.length + 1)) (by rw [hSl]; simp <;> omega), at_app (k := ds.length + 1) (by simp <;> omega), at_app (k := 1) (by simp), at_app (k := 0) (by simp), hE, if_pos (of_decide_eq_true h)]; rfl
  · rw [hlist, at_app (k := 2 + (ds.length + 1) + E.length + j) (by rw [hSl, hEl]; omega), at_app (k := (ds.length + 1) + E.length + j) (by simp <;> omega), at_app (k := 1 + E.length + j) (by omega), at_app (k := E.length + j) (by simp <;> omega), at_app (k := j) (by omega)]
  · rw [strL_size]; simp [hSl, hEl]; omega
  · rw [strL_size]; exact hroom
/-- nothing is left out: the digits kept tell the number. -/
theorem kept {D : List UInt8} (ht : truncN D D.length = false) : natOf D = natOf (D.take 19) * 10 ^ (D.length - min D.length 19) := by
  have h0 : D = D.take 19 ++ D.drop 19 := (List.take_append_drop 19 D).symm
  have hz : ∀ c ∈ D.drop 19, c = 48 := by
    intro c hc
    unfold truncN at ht
    rw [List.take_length] at ht
    have := (List.any_eq_false.1 ht) c hc
    simpa using this
  conv => lhs; rw [h0]
  rw [natOf_append, natOf_zeros hz, List.length_drop, Nat.add_zero]
  congr 2
  omega
theorem reads_shift {t L m k R : Nat} {p q : Int} (hp : p = q + k) : ReadsAs t L m p R ↔ ReadsAs t L (m * 10 ^ k) q R := by
  have hx : ∀ a : Nat, 0 < 10 ^ a := fun a => Nat.pow_pos (by omega)
  have e : m * 10 ^ p.toNat * 2 ^ L * 10 ^ (-q).toNat = m * 10 ^ k * 10 ^ q.toNat * 2 ^ L * 10 ^ (-p).toNat := by
    have e1 : m * 10 ^ p.toNat * 2 ^ L * 10 ^ (-q).toNat = m * 2 ^ L * (10 ^ p.toNat * 10 ^ (-q).toNat) := by grind
    have e2 : m * 10 ^ k * 10 ^ q.toNat * 2 ^ L * 10 ^ (-p).toNat = m * 2 ^ L * (10 ^ k * 10 ^ q.toNat * 10 ^ (-p).toNat) := by grind
    rw [e1, e2, ← Nat.pow_add, ← Nat.pow_add, ← Nat.pow_add]
    congr 2; omega
  unfold ReadsAs
  constructor
  · exact fun h => RN.of_same h (hx _) (hx _) e
  · exact fun h => RN.of_same h (hx _) (hx _) e.symm
theorem atof64_lead {B : Nat} (neg : Bool) (D : List UInt8) (pow : Int) (w : World) (hG : Rich B w) (hB : B ≤ w.heap.size) (hD : ∀ c ∈ D, isDig c) (hne : D ≠ []) (hfirst : D = [48] ∨ ∀ c, D[0]? = some c → c ≠ 48)
   (hroom : (leadText neg D pow).length ≤ 1000000000) (ht : truncN D D.length = false) :
    Calls Tryz.prog 184 #[.string (strL (leadText neg D pow))] w fun e w' => Atof .f64 52 1074 9218868437227405312 (sgn64 neg) (natOf D) (pow + 1 - D.length) (leadText neg D pow).length e ∧ Below B w w' := by
  obtain ⟨j0, HL⟩ := lead_of neg D pow hD hne hroom
  have hsz : ((strL (leadText neg D pow)).size : Int) = (leadText neg D pow).length := by rw [strL_size]
  by_cases hz : D = [48]
  · subst hz
    refine (atof64_core (strL (leadText neg [48] pow)) neg 0 0 (leadText neg [48] pow).length w hG hB (fun w => special_lead HL w) (fun w => ?_) (by decide) (by omega) (by omega)).mono fun e w' ⟨⟨R, hR, he⟩, hb⟩ => ⟨⟨0, ?_, ?_⟩, hb⟩
    · have := readFloat_zero _ _ _ _ _ _ w HL
      rw [hsz] at this
      exact this
    · rw [show natOf [48] = 0 by decide]
      exact reads_zero _ _ (by decide)
    · have hR0 : R = 0 := RN.unique (Nat.two_pow_pos 52) (Nat.pow_pos (by omega)) hR (reads_zero 1074 0 (by decide))
      rw [he, hR0]
  · have hd0 : ∀ c, D[0]? = some c → c ≠ 48 := hfirst.resolve_left hz
    obtain ⟨x1, x2, x3⟩ := dec_all pow.natAbs
    obtain ⟨c1, c2, c3⟩ := capN_spec x1
    have c4 := capN_lt x1
    rw [x2] at c1 c2 c3
    have hm := natOf_take_lt hD 19
    have hlen : D.length ≤ 1000000000 := by
      have : D.length ≤ (leadText neg D pow).length := by
        unfold leadText
        simp only [List.length_append, List.length_take, List.length_drop]
        omega
      omega
    obtain ⟨k, hk⟩ : ∃ k, k = D.length - min D.length 19 := ⟨_, rfl⟩
    obtain ⟨p, hp⟩ : ∃ p : Int, p = 1 + (if decide (pow < 0) = true then -(capN (Lib.decDigits pow.natAbs) : Int) else capN (Lib.decDigits pow.natAbs)) - (min D.length 19 : Nat) := ⟨_, rfl⟩
    have hm0 : natOf (D.take 19) ≠ 0 := by
      obtain ⟨a, l, rfl⟩ : ∃ a l, D = a :: l := by
        cases D with
        | nil => exact absurd rfl hne
        | cons a l => exact ⟨a, l, rfl⟩
      have ha := hd0 a rfl
      have hda := hD a List.mem_cons_self
      unfold isDig at hda
      have hna : a.toNat ≠ 48 := fun h => ha (UInt8.toNat.inj h)
      rw [List.take_succ_cons, show a :: List.take 18 l = [a] ++ List.take 18 l from rfl, natOf_append]
      have h5 : 0 < natOf [a] := by
        show 0 < natOf ([] ++ [a])
        rw [natOf_snoc]; omega
      have := Nat.mul_pos h5 (Nat.pow_pos (n := (List.take 18 l).length) (show 0 < 10 by omega))
      omega
    have hN := kept ht
    rw [← hk] at hN
    refine (atof64_core (strL (leadText neg D pow)) neg (natOf (D.take 19)) p (leadText neg D pow).length w hG hB (fun w => special_lead HL w) (fun w => ?_) hm (by rw [hp]; split <;> omega) (by rw [hp]; split <;> omega)).mono fun e w' ⟨⟨R, hR, he⟩, hb⟩ => ⟨?_, hb⟩
    · have := readFloat_dig _ _ _ _ _ _ _ w HL hd0
      rw [hsz, ht, ← hp] at this
      exact this
    · by_cases hcap : pow.natAbs < 10000
      · refine ⟨R, ?_, he⟩
        rw [hN]
        refine (reads_shift ?_).1 hR
        rw [hp, c1 hcap, hk]
        by_cases hneg : pow < 0
        · rw [if_pos (decide_eq_true hneg)]; omega
        · rw [if_neg (by rw [decide_eq_false hneg]; simp)]; omega
      · have hcap2 := c2 (by omega)
        by_cases hneg : pow < 0
        · have hpl : p ≤ -9000 := by rw [hp, if_pos (decide_eq_true hneg)]; omega
          have hu := under64 (N := natOf (D.take 19)) (P := p) (by omega) (by omega)
          have hR0 : R = 0 := RN.unique (Nat.two_pow_pos 52) (Nat.pow_pos (by omega)) hR hu
          refine ⟨0, ?_, by rw [he, hR0]⟩
          rw [hN]
          refine (reads_shift (p := pow + 1 - D.length + k) rfl).1 ?_
          exact under64 (by omega) (by omega)
        · have hpl : 9000 ≤ p := by rw [hp, if_neg (by rw [decide_eq_false hneg]; simp)]; omega
          have hge := over64 (N := natOf (D.take 19)) (P := p) (by omega) (by omega) hR
          obtain ⟨R2, hR2⟩ := big_reads64 (natOf (D.take 19)) (pow + 1 - D.length + k) (by omega) hm0
          have hge2 := over64 (N := natOf (D.take 19)) (P := pow + 1 - D.length + k) (by omega) (by omega) hR2
          refine ⟨R2, ?_, ?_⟩
          · rw [hN]
            exact (reads_shift (p := pow + 1 - D.length + k) rfl).1 hR2
          · rw [he]
            unfold end3
            rw [if_neg (by omega), if_neg (by omega)]
theorem atof32_lead {B : Nat} (neg : Bool) (D : List UInt8) (pow : Int) (w : World) (hG : Rich B w) (hB : B ≤ w.heap.size) (hD : ∀ c ∈ D, isDig c) (hne : D ≠ []) (hfirst : D = [48] ∨ ∀ c, D[0]? = some c → c ≠ 48)
   (hroom : (leadText neg D pow).length ≤ 1000000000) (ht : truncN D D.length = false) :
    Calls Tryz.prog 183 #[.string (strL (leadText neg D pow))] w fun e w' => Atof .f32 23 149 2139095040 (sgn32 neg) (natOf D) (pow + 1 - D.length) (leadText neg D pow).length e ∧ Below B w w' := by
  obtain ⟨j0, HL⟩ := lead_of neg D pow hD hne hroom
  have hsz : ((strL (leadText neg D pow)).size : Int) = (leadText neg D pow).length := by rw [strL_size]
  by_cases hz : D = [48]
  · subst hz
    refine (atof32_core (strL (leadText neg [48] pow)) neg 0 0 (leadText neg [48] pow).length w hG hB (fun w => special_lead HL w) (fun w => ?_) (by decide) (by omega) (by omega)).mono fun e w' ⟨⟨R, hR, he⟩, hb⟩ => ⟨⟨0, ?_, ?_⟩, hb⟩
    · have := readFloat_zero _ _ _ _ _ _ w HL
      rw [hsz] at this
      exact this
    · rw [show natOf [48] = 0 by decide]
      exact reads_zero _ _ (by decide)
    · have hR0 : R = 0 := RN.unique (Nat.two_pow_pos 23) (Nat.pow_pos (by omega)) hR (reads_zero 149 0 (by decide))
      rw [he, hR0]
  · have hd0 : ∀ c, D[0]? = some c → c ≠ 48 := hfirst.resolve_left hz
    obtain ⟨x1, x2, x3⟩ := dec_all pow.natAbs
    obtain ⟨c1, c2, c3⟩ := capN_spec x1
    have c4 := capN_lt x1
    rw [x2] at c1 c2 c3
    have hm := natOf_take_lt hD 19
    have hlen : D.length ≤ 1000000000 := by
      have : D.length ≤ (leadText neg D pow).length := by
        unfold leadText
        simp only [List.length_append, List.length_take, List.length_drop]
        omega
      omega
    obtain ⟨k, hk⟩ : ∃ k, k = D.length - min D.length 19 := ⟨_, rfl⟩
    obtain ⟨p, hp⟩ : ∃ p : Int, p = 1 + (if decide (pow < 0) = true then -(capN (Lib.decDigits pow.natAbs) : Int) else capN (Lib.decDigits pow.natAbs)) - (min D.length 19 : Nat) := ⟨_, rfl⟩
    have hm0 : natOf (D.take 19) ≠ 0 := by
      obtain ⟨a, l, rfl⟩ : ∃ a l, D = a :: l := by
        cases D with
        | nil => exact absurd rfl hne
        | cons a l => exact ⟨a, l, rfl⟩
      have ha := hd0 a rfl
      have hda := hD a List.mem_cons_self
      unfold isDig at hda
      have hna : a.toNat ≠ 48 := fun h => ha (UInt8.toNat.inj h)
      rw [List.take_succ_cons, show a :: List.take 18 l = [a] ++ List.take 18 l from rfl, natOf_append]
      have h5 : 0 < natOf [a] := by
        show 0 < natOf ([] ++ [a])
        rw [natOf_snoc]; omega
      have := Nat.mul_pos h5 (Nat.pow_pos (n := (List.take 18 l).length) (show 0 < 10 by omega))
      omega
    have hN := kept ht
    rw [← hk] at hN
    refine (atof32_core (strL (leadText neg D pow)) neg (natOf (D.take 19)) p (leadText neg D pow).length w hG hB (fun w => special_lead HL w) (fun w => ?_) hm (by rw [hp]; split <;> omega) (by rw [hp]; split <;> omega)).mono fun e w' ⟨⟨R, hR, he⟩, hb⟩ => ⟨?_, hb⟩
    · have := readFloat_dig _ _ _ _ _ _ _ w HL hd0
      rw [hsz, ht, ← hp] at this
      exact this
    · by_cases hcap : pow.natAbs < 10000
      · refine ⟨R, ?_, he⟩
        rw [hN]
        refine (reads_shift ?_).1 hR
        rw [hp, c1 hcap, hk]
        by_cases hneg : pow < 0
        · rw [if_pos (decide_eq_true hneg)]; omega
        · rw [if_neg (by rw [decide_eq_false hneg]; simp)]; omega
      · have hcap2 := c2 (by omega)
        by_cases hneg : pow < 0
        · have hpl : p ≤ -9000 := by rw [hp, if_pos (decide_eq_true hneg)]; omega
          have hu := under32 (N := natOf (D.take 19)) (P := p) (by omega) (by omega)
          have hR0 : R = 0 := RN.unique (Nat.two_pow_pos 23) (Nat.pow_pos (by omega)) hR hu
          refine ⟨0, ?_, by rw [he, hR0]⟩
          rw [hN]
          refine (reads_shift (p := pow + 1 - D.length + k) rfl).1 ?_
          exact under32 (by omega) (by omega)
        · have hpl : 9000 ≤ p := by rw [hp, if_neg (by rw [decide_eq_false hneg]; simp)]; omega
          have hge := over32 (N := natOf (D.take 19)) (P := p) (by omega) (by omega) hR
          obtain ⟨R2, hR2⟩ := big_reads32 (natOf (D.take 19)) (pow + 1 - D.length + k) (by omega) hm0
          have hge2 := over32 (N := natOf (D.take 19)) (P := pow + 1 - D.length + k) (by omega) (by omega) hR2
          refine ⟨R2, ?_, ?_⟩
          · rw [hN]
            exact (reads_shift (p := pow + 1 - D.length + k) rfl).1 hR2
          · rw [he]
            unfold end3
            rw [if_neg (by omega), if_neg (by omega)]
end Go.Proofs.YtdfodfflkmcgpaaGreatDoor
/- A narrow floating number, widened and cut again, is itself. -/
namespace Go.Proofs.YtdfodfflkmcgpaaGreatDoor
open Go.RowKit Near Parse Ieee
set_option linter.unusedVariables false
set_option maxRecDepth 100000
theorem read_word2 (f : Format) (neg : Bool) {r : Nat} (hr : r < f.infRung) (hi : f.infRung < f.signWeight) :
    ∃ m k, f.read (f.word neg r) = .number neg m (f.leastPlace + (k : Nat)) ∧ m * 2 ^ k = val f.binade r ∧ m < 2 * f.binade := by
  have hpos : 0 < f.binade := Nat.two_pow_pos _
  have e1 : (f.word neg r / f.signWeight % 2 == 1) = neg := by
    unfold Format.word
    cases neg
    · rw [if_neg (by simp), Nat.div_eq_of_lt (by omega)]; rfl
    · rw [if_pos rfl, Nat.add_div_left _ (by omega), Nat.div_eq_of_lt (by omega)]; rfl
  have e2 : f.word neg r % f.signWeight = r := by
    unfold Format.word
    cases neg
    · rw [if_neg (by simp), Nat.mod_eq_of_lt (by omega)]
    · rw [if_pos rfl, Nat.add_mod_left, Nat.mod_eq_of_lt (by omega)]
  unfold Format.read
  simp only [e1, e2]
  by_cases h : r < f.binade
  · rw [if_pos h]
    exact ⟨r, 0, by simp, by rw [val_lt h]; omega, by omega⟩
  · rw [if_neg h, if_pos hr]
    refine ⟨_, _, rfl, ?_, ?_⟩
    · unfold val; rw [if_neg h]
    · have := Nat.mod_lt r hpos; omega
theorem read_inf (f : Format) (neg : Bool) {r : Nat} (hr : r < f.infRung) (hi : f.infRung < f.signWeight) : (f.read (f.word neg r)).isInfinity = false := by
  obtain ⟨m, k, h, -⟩ := read_word2 f neg hr hi
  rw [h]; rfl
def e925 : Nat := 2 ^ 925
theorem e925_eq (k : Nat) (h : k = 925) : e925 = 2 ^ k := by subst h; rfl
theorem e925_pos : 0 < e925 := by decide +kernel
theorem dinf : double.infRung = 2047 * 2 ^ 52 := by decide +kernel
theorem sinf : single.infRung = 255 * 2 ^ 23 := by decide +kernel
theorem dsw : double.infRung < double.signWeight := by decide +kernel
theorem ssw : single.infRung < single.signWeight := by decide +kernel
theorem dbin : double.binade = 2 ^ 52 := rfl
theorem sbin : single.binade = 2 ^ 23 := rfl
theorem dlp : double.leastPlace = -1074 := by decide +kernel
theorem slp : single.leastPlace = -149 := by decide +kernel
theorem val_sinf : val (2 ^ 23) (255 * 2 ^ 23) = 2 ^ 277 := by decide +kernel
theorem val_dinf : 2 ^ 277 * e925 ≤ val (2 ^ 52) (2047 * 2 ^ 52) := by decide +kernel
/-- a narrow number as a wide one: the rung. -/
theorem wide_rung (neg : Bool) {R : Nat} (hR : R < 255 * 2 ^ 23) :
    ∃ r, r < 2047 * 2 ^ 52 ∧ val (2 ^ 52) r = val (2 ^ 23) R * e925 ∧ FloatKind.encode .f64 (FloatKind.decode .f32 (single.word neg R)) = double.word neg r := by
  have hR' : R < single.infRung := by rw [sinf]; exact hR
  obtain ⟨m, k, h1, h2, h3⟩ := read_word2 single neg hR' ssw
  rw [sbin] at h2 h3
  rw [slp] at h1
  have hdec : FloatKind.decode .f32 (single.word neg R) = .number neg m (-149 + (k : Int)) := h1
  rw [hdec]
  by_cases hm : m = 0
  · refine ⟨0, by decide, ?_, ?_⟩
    · rw [hm, Nat.zero_mul] at h2
      rw [← h2, val_lt (Nat.two_pow_pos 52), Nat.zero_mul]
    · rw [hm]; rfl
  · have hl : m.log2 ≤ double.fractionBits := by
      have : m.log2 < 24 := (Nat.log2_lt hm).2 (by omega)
      show m.log2 ≤ 52
      omega
    have hv := rung_exact double (mag := m) (-149 + (k : Int)) hm hl (by rw [dlp]; omega)
    rw [dbin, dlp, show (-149 + (k : Int) - -1074).toNat = k + 925 by omega, Nat.pow_add, ← Nat.mul_assoc, h2, ← e925_eq 925 rfl] at hv
    have hlt : rung double m (-149 + (k : Int)) < 2047 * 2 ^ 52 := by
      rcases Nat.lt_or_ge (rung double m (-149 + (k : Int))) (2047 * 2 ^ 52) with h | h
      · exact h
      · exfalso
        have h4 := val_mono (Nat.two_pow_pos 52) h
        rw [hv] at h4
        have h5 := val_mono_lt (Nat.two_pow_pos 23) hR
        rw [val_sinf] at h5
        have h6 := Nat.mul_lt_mul_of_pos_right h5 e925_pos
        have := val_dinf
        omega
    refine ⟨_, hlt, hv, ?_⟩
    show double.nearest neg m (-149 + (k : Int)) = _
    rw [nearest_eq double neg _ hm, dinf, Nat.min_eq_left (Nat.le_of_lt hlt)]
/-- widened, and cut again. -/
theorem wide_cut (neg : Bool) {R : Nat} (hR : R < 255 * 2 ^ 23) :
    ∃ x, floatToFloatBits .f32 (single.word neg R) .f64 = some x ∧ floatToFloatBits .f64 x .f32 = some (single.word neg R) := by
  obtain ⟨r, hr, hv, he⟩ := wide_rung neg hR
  have hR' : R < single.infRung := by rw [sinf]; exact hR
  have hr' : r < double.infRung := by rw [dinf]; exact hr
  obtain ⟨m, k, h1, h2, h3⟩ := read_word2 single neg hR' ssw
  have hdec : FloatKind.decode .f32 (single.word neg R) = .number neg m (single.leastPlace + (k : Int)) := h1
  refine ⟨double.word neg r, ?_, ?_⟩
  · unfold floatToFloatBits
    rw [if_neg (by decide), hdec]
    rw [hdec] at he
    show (if (FloatKind.decode .f64 (FloatKind.encode .f64 (.number neg m (single.leastPlace + (k : Int))))).isInfinity then none else some (FloatKind.encode .f64 (.number neg m (single.leastPlace + (k : Int))))) = _
    rw [he]
    have : (FloatKind.decode .f64 (double.word neg r)).isInfinity = false := read_inf double neg hr' dsw
    rw [this]; rfl
  · obtain ⟨m2, k2, g1, g2, g3⟩ := read_word2 double neg hr' dsw
    rw [dlp] at g1
    rw [dbin] at g2
    have gdec : FloatKind.decode .f64 (double.word neg r) = .number neg m2 (-1074 + (k2 : Int)) := g1
    have henc : FloatKind.encode .f32 (.number neg m2 (-1074 + (k2 : Int))) = single.word neg R := by
      show single.nearest neg m2 (-1074 + (k2 : Int)) = _
      by_cases hm : m2 = 0
      · rw [hm, Nat.zero_mul] at g2
        have hz : val (2 ^ 23) R * e925 = 0 := by rw [← hv, ← g2]
        have hz2 : val (2 ^ 23) R = 0 := by
          rcases Nat.mul_eq_zero.1 hz with h | h
          · exact h
          · exact absurd h (Nat.pos_iff_ne_zero.1 e925_pos)
        have hR0 : R = 0 := by
          rcases Nat.eq_zero_or_pos R with h | h
          · exact h
          · exact absurd hz2 (val_pos (Nat.two_pow_pos 23) (by omega))
        rw [hm, hR0]; rfl
      · rw [nearest_eq single neg _ hm]
        have hRN := rung_RN single (by decide) (mag := m2) (-1074 + (k2 : Int)) hm
        rw [sbin, slp] at hRN
        have hself := RN.self (Nat.two_pow_pos 23) R
        have heq : rung single m2 (-1074 + (k2 : Int)) = R := by
          refine RN.same (Nat.two_pow_pos 23) (Nat.two_pow_pos _) (by omega) hRN hself ?_
          -- the same value
          have hc : m2 * 2 ^ k2 = val (2 ^ 23) R * e925 := by rw [g2, hv]
          have h925 := e925_pos
          rw [Nat.mul_one]
          rcases Nat.lt_or_ge k2 925 with hk | hk
          · rw [show (-1074 + (k2 : Int) - -149).toNat = 0 by omega, show (-149 - (-1074 + (k2 : Int))).toNat = 925 - k2 by omega, Nat.pow_zero, Nat.mul_one]
            refine Nat.eq_of_mul_eq_mul_right (Nat.two_pow_pos k2) ?_
            rw [hc, Nat.mul_assoc, ← Nat.pow_add]
            congr 1; exact e925_eq _ (by omega)
          · rw [show (-1074 + (k2 : Int) - -149).toNat = k2 - 925 by omega, show (-149 - (-1074 + (k2 : Int))).toNat = 0 by omega, Nat.pow_zero, Nat.mul_one]
            refine Nat.eq_of_mul_eq_mul_right h925 ?_
            obtain ⟨n9, hn9⟩ : ∃ n, n = 925 := ⟨_, rfl⟩
            rw [← hc, Nat.mul_assoc, e925_eq n9 hn9, ← Nat.pow_add]
            congr 2; omega
        rw [heq, Nat.min_eq_left (Nat.le_of_lt hR')]
    unfold floatToFloatBits
    rw [if_neg (by decide), gdec]
    show (if (FloatKind.decode .f32 (FloatKind.encode .f32 (.number neg m2 (-1074 + (k2 : Int))))).isInfinity then none else some (FloatKind.encode .f32 (.number neg m2 (-1074 + (k2 : Int))))) = _
    rw [henc]
    have : (FloatKind.decode .f32 (single.word neg R)).isInfinity = false := read_inf single neg hR' ssw
    rw [this]; rfl
theorem wide_inf (neg : Bool) : floatToFloatBits .f32 (single.word neg (255 * 2 ^ 23)) .f64 = some (double.word neg (2047 * 2 ^ 52)) := by
  cases neg <;> decide +kernel
end Go.Proofs.YtdfodfflkmcgpaaGreatDoor
/- ParseFloat, of a text that atof reads; nums.readFloating. -/
namespace Go.Proofs.YtdfodfflkmcgpaaGreatDoor
open Go.RowKit Go.Sort Near Parse
set_option linter.unusedVariables false
set_option maxRecDepth 100000
/-- how ParseFloat ends: a number, or the error. -/
def Pub (inf : Nat) (Fin : Nat → Nat → Prop) (Q : Nat → Prop) (e : Ending) : Prop :=
  ∃ R, Q R ∧ ((R < inf ∧ ∃ x, Fin x R ∧ e = .returned (.tuple #[.float .f64 x, .nilIface])) ∨ (inf ≤ R ∧ ∃ x v, e = .returned (.tuple #[.float .f64 x, .iface 163 v])))
def Mid3 (inf : Nat) (Fin : Nat → Nat → Prop) (Q : Nat → Prop) (n : Int) (e : Ending) : Prop :=
  ∃ R, Q R ∧ ((R < inf ∧ ∃ x, Fin x R ∧ e = .returned (.tuple #[.float .f64 x, .int .i64 n, .nilIface])) ∨ (inf ≤ R ∧ ∃ x, e = .returned (.tuple #[.float .f64 x, .int .i64 n, .iface 160 (.int .i64 1)])))
def Mid2 (inf : Nat) (Fin : Nat → Nat → Prop) (Q : Nat → Prop) (e : Ending) : Prop :=
  ∃ R, Q R ∧ ((R < inf ∧ ∃ x, Fin x R ∧ e = .returned (.tuple #[.float .f64 x, .nilIface])) ∨ (inf ≤ R ∧ ∃ x, e = .returned (.tuple #[.float .f64 x, .iface 160 (.int .i64 1)])))
def Fin64 (neg : Bool) (x R : Nat) : Prop := x = sgn64 neg + R
def Fin32 (neg : Bool) (x R : Nat) : Prop := floatToFloatBits .f64 x .f32 = some (sgn32 neg + R)
theorem prefix64 {B : Nat} (t : ByteArray) (neg : Bool) (Q : Nat → Prop) (w : World)
   (hat : Calls Tryz.prog 184 #[.string t] w fun e w' => (∃ R, Q R ∧ e = .returned (end3 .f64 9218868437227405312 (sgn64 neg) R t.size)) ∧ Below B w w') :
    Calls Tryz.prog 158 #[.string t, .int .i64 64] w fun e w' => Mid3 9218868437227405312 (Fin64 neg) Q t.size e ∧ Below B w w' := by
  obtain ⟨sg, hsg⟩ : ∃ sg, sg = sgn64 neg := ⟨_, rfl⟩
  rw [← hsg] at hat
  have HS := Lib.hid hsg
  have HA := Lib.hid hat
  clear hat hsg
  go_enter Tryz.func158, Tryz.ntmps158
  go_wp2_with fail
  refine HA.out.mono ?_
  rintro e w1 ⟨⟨R, hQ, rfl⟩, hb⟩
  have HQ := Lib.hid hQ
  clear hQ
  unfold end3
  by_cases hin : R < 9218868437227405312
  · rw [if_pos hin]
    go_wp2_with fail
    go_ret3
    exact ⟨⟨R, HQ.out, .inl ⟨hin, _, congrArg (· + R) HS.out, rfl⟩⟩, hb⟩
  · rw [if_neg hin]
    go_wp2_with fail
    go_ret3
    exact ⟨⟨R, HQ.out, .inr ⟨by omega, _, rfl⟩⟩, hb⟩
theorem prefix32 {B : Nat} (t : ByteArray) (neg : Bool) (Q : Nat → Prop) (w : World)
   (hat : Calls Tryz.prog 183 #[.string t] w fun e w' => (∃ R, Q R ∧ e = .returned (end3 .f32 2139095040 (sgn32 neg) R t.size)) ∧ Below B w w') :
    Calls Tryz.prog 158 #[.string t, .int .i64 32] w fun e w' => Mid3 2139095040 (Fin32 neg) Q t.size e ∧ Below B w w' := by
  have hwc := fun (R : Nat) (h : R < 2139095040) => wide_cut neg (R := R) h
  have hwi := wide_inf neg
  have HW := Lib.hid (And.intro hwc hwi)
  obtain ⟨sg, hsg⟩ : ∃ sg, sg = sgn32 neg := ⟨_, rfl⟩
  rw [← hsg] at hat
  have HS := Lib.hid hsg
  have HA := Lib.hid hat
  clear hat hsg hwc hwi
  have hu : (Tryz.prog.underlying 60).isSome = true := by kernel_rfl
  have hd : Tryz.prog.underlying 59 = some (.float .f64) := by kernel_rfl
  have HU := Lib.hid (And.intro hu hd)
  clear hu hd
  go_enter Tryz.func158, Tryz.ntmps158
  go_wp2_with fail
  refine HA.out.mono ?_
  rintro e w1 ⟨⟨R, hQ, rfl⟩, hb⟩
  have HQ := Lib.hid hQ
  clear hQ
  unfold end3
  by_cases hin : R < 2139095040
  · rw [if_pos hin]
    obtain ⟨x, hx1, hx2⟩ := HW.out.1 R hin
    rw [word32, ← HS.out] at hx1 hx2
    have hcv : ∀ w, (convert 60 59 (.float .f32 (sg + R))).run Tryz.prog w = .ok (.float .f64 x) w := fun w => run_convert_float_float w 60 59 .f32 .f64 _ _ HU.out.1 HU.out.2 hx1
    have HX := Lib.hid hx2
    clear hx1 hx2
    go_wp2_with fail
    go_ret3
    exact ⟨⟨R, HQ.out, .inl ⟨hin, x, by unfold Fin32; rw [← HS.out]; exact HX.out, rfl⟩⟩, hb⟩
  · rw [if_neg hin]
    have hx1 := HW.out.2
    rw [word32, ← HS.out] at hx1
    obtain ⟨y, hy⟩ : ∃ y, y = Ieee.double.word neg (2047 * 2 ^ 52) := ⟨_, rfl⟩
    rw [← hy] at hx1
    have hcv : ∀ w, (convert 60 59 (.float .f32 (sg + 2139095040))).run Tryz.prog w = .ok (.float .f64 y) w := fun w => run_convert_float_float w 60 59 .f32 .f64 _ _ HU.out.1 HU.out.2 hx1
    clear hx1 hy
    go_wp2_with fail
    go_ret3
    exact ⟨⟨R, HQ.out, .inr ⟨by omega, _, rfl⟩⟩, hb⟩
theorem inner_pf {B : Nat} (t : ByteArray) (wd : Int) (inf : Nat) (Fin : Nat → Nat → Prop) (Q : Nat → Prop) (w : World)
   (hat : Calls Tryz.prog 158 #[.string t, .int .i64 wd] w fun e w' => Mid3 inf Fin Q t.size e ∧ Below B w w') :
    Calls Tryz.prog 126 #[.string t, .int .i64 wd] w fun e w' => Mid2 inf Fin Q e ∧ Below B w w' := by
  have HA := Lib.hid hat
  clear hat
  go_enter Tryz.func126, Tryz.ntmps126
  go_wp2_with fail
  refine HA.out.mono ?_
  rintro e w1 ⟨⟨R, hQ, ⟨hin, x, hF, rfl⟩ | ⟨hin, x, rfl⟩⟩, hb⟩
  · have HQ := Lib.hid (And.intro hQ hF)
    clear hQ hF
    go_wp2_with fail
    go_ret2
    exact ⟨⟨R, HQ.out.1, .inl ⟨hin, x, HQ.out.2, rfl⟩⟩, hb⟩
  · have HQ := Lib.hid hQ
    clear hQ
    go_wp2_with fail
    go_ret2
    exact ⟨⟨R, HQ.out, .inr ⟨hin, x, rfl⟩⟩, hb⟩
theorem public_pf {B : Nat} (t : ByteArray) (wd : Int) (inf : Nat) (Fin : Nat → Nat → Prop) (Q : Nat → Prop) (w : World) (hG : Rich B w) (hB : B ≤ w.heap.size) (ht : t.size ≤ 2000000000)
   (hat : Calls Tryz.prog 126 #[.string t, .int .i64 wd] w fun e w' => Mid2 inf Fin Q e ∧ Below B w w') :
    Calls Tryz.prog 86 #[.string t, .int .i64 wd] w fun e w' => Pub inf Fin Q e ∧ Below B w w' := by
  have HA := Lib.hid hat
  clear hat
  go_enter Tryz.func86, Tryz.ntmps86
  go_wp2_with fail
  refine HA.out.mono ?_
  rintro e w1 ⟨⟨R, hQ, ⟨hin, x, hF, rfl⟩ | ⟨hin, x, rfl⟩⟩, hb⟩
  · have HQ := Lib.hid (And.intro hQ hF)
    clear hQ hF
    go_wp2_with fail
    go_ret2
    exact ⟨⟨R, HQ.out.1, .inl ⟨hin, x, HQ.out.2, rfl⟩⟩, hb⟩
  · have HQ := Lib.hid hQ
    clear hQ
    obtain ⟨ev, he1, he2⟩ := (hG.below hb).er
    go_wp2_with fail
    refine (Tryz.strconv_toError_range _ t 0 wd ev _ (by omega) he1 he2).mono ?_
    rintro e w2 ⟨N, rfl, hN, -, hb2⟩
    have hbel := hb.trans (hb2.mono (Nat.le_trans hB hb.size))
    clear he1 he2
    go_wp2_with fail
    go_ret2
    exact ⟨⟨R, HQ.out, .inr ⟨hin, x, _, rfl⟩⟩, hbel⟩
end Go.Proofs.YtdfodfflkmcgpaaGreatDoor
/- nums.readFloating, of a JSON number: the nearest, or the error. -/
namespace Go.Proofs.YtdfodfflkmcgpaaGreatDoor
open Go.RowKit Go.Sort Near Parse
set_option linter.unusedVariables false
set_option maxRecDepth 100000
/-- a number's value: digits and a power of ten. -/
def valN (W P : List UInt8) : Nat := natOf (W ++ P)
def valP (P : List UInt8) (hasE eneg : Bool) (X : List UInt8) : Int := (if hasE then expCap eneg X else 0) - P.length
section
variable {l : List UInt8} {neg : Bool} {W P : List UInt8} {hasP hasE : Bool} {ec : UInt8} {xt : List UInt8} {eneg : Bool} {X : List UInt8}
theorem NumText.wlen (T : NumText l neg W P hasP hasE ec xt eneg X) : W.length + P.length ≤ l.length := by
  have h1 := congrArg List.length T.form
  simp only [List.length_append] at h1
  have h2 : P.length ≤ (ptText hasP P).length := by
    unfold ptText
    cases hasP
    · rw [T.pnone rfl]; simp
    · simp
  omega
theorem leadText_len (neg : Bool) (D : List UInt8) (pow : Int) (h0 : -9223372036854775808 ≤ pow) (h1 : pow ≤ 9223372036854775807) : (leadText neg D pow).length ≤ D.length + 24 := by
  have := Lib.itoa_length_le pow h0 h1
  unfold leadText
  cases neg <;> simp <;> omega
theorem NumText.powb (T : NumText l neg W P hasP hasE ec xt eneg X) (hs : l.length ≤ 900000000) : -2000000000000 ≤ leadPow W P hasE eneg X ∧ leadPow W P hasE eneg X ≤ 2000000000000 := by
  have h1 := T.wlen
  have h2 := leadDigits_len (W ++ P)
  rw [List.length_append] at h2
  unfold leadPow expCap
  split <;> omega
/-- leading, of either sign. -/
theorem leading_all {B : Nat} (T : NumText l neg W P hasP hasE ec xt eneg X) (w : World) (hG : Rich B w) (hB : B ≤ w.heap.size) (hs : l.length ≤ 900000000) :
    Calls Tryz.prog 87 #[.string (strL l)] w fun e w' => e = .returned (.string (strL (leadText neg (leadDigits (W ++ P)) (leadPow W P hasE eneg X)))) ∧ Below B w w' := by
  cases neg
  · exact leading_pos T w hG hB (by omega)
  · exact leading_neg T w hG hB (by omega)
theorem valP_lead : leadPow W P hasE eneg X + 1 - (leadDigits (W ++ P)).length = valP P hasE eneg X := by
  unfold leadPow valP; omega
/-- ParseFloat of what leading writes. -/
theorem pf64_num {B : Nat} (T : NumText l neg W P hasP hasE ec xt eneg X) (w : World) (hG : Rich B w) (hB : B ≤ w.heap.size) (hs : l.length ≤ 900000000)
   (ht : truncN (leadDigits (W ++ P)) (leadDigits (W ++ P)).length = false) :
    Calls Tryz.prog 86 #[.string (strL (leadText neg (leadDigits (W ++ P)) (leadPow W P hasE eneg X))), .int .i64 64] w fun e w' => Pub 9218868437227405312 (Fin64 neg) (ReadsAs 52 1074 (valN W P) (valP P hasE eneg X)) e ∧ Below B w w' := by
  have hwp : ∀ c ∈ W ++ P, isDig c := fun c hc => (List.mem_append.1 hc).elim (T.wdig c) (T.pdig c)
  obtain ⟨p1, p2⟩ := T.powb hs
  have h2 := leadDigits_len (W ++ P)
  have h3 := T.wlen
  rw [List.length_append] at h2
  have hl := leadText_len neg (leadDigits (W ++ P)) (leadPow W P hasE eneg X) (by omega) (by omega)
  refine public_pf _ 64 _ _ _ w hG hB (by rw [strL_size]; omega) (inner_pf _ 64 _ _ _ w (prefix64 _ neg _ w ?_))
  refine (atof64_lead neg _ _ w hG hB (leadDigits_dig hwp) leadDigits_ne leadDigits_first (by omega) ht).mono fun e w' ⟨⟨R, hR, he⟩, hb⟩ => ⟨⟨R, ?_, ?_⟩, hb⟩
  · rw [natOf_lead, valP_lead] at hR
    exact hR
  · rw [he, strL_size]
theorem pf32_num {B : Nat} (T : NumText l neg W P hasP hasE ec xt eneg X) (w : World) (hG : Rich B w) (hB : B ≤ w.heap.size) (hs : l.length ≤ 900000000)
   (ht : truncN (leadDigits (W ++ P)) (leadDigits (W ++ P)).length = false) :
    Calls Tryz.prog 86 #[.string (strL (leadText neg (leadDigits (W ++ P)) (leadPow W P hasE eneg X))), .int .i64 32] w fun e w' => Pub 2139095040 (Fin32 neg) (ReadsAs 23 149 (valN W P) (valP P hasE eneg X)) e ∧ Below B w w' := by
  have hwp : ∀ c ∈ W ++ P, isDig c := fun c hc => (List.mem_append.1 hc).elim (T.wdig c) (T.pdig c)
  obtain ⟨p1, p2⟩ := T.powb hs
  have h2 := leadDigits_len (W ++ P)
  have h3 := T.wlen
  rw [List.length_append] at h2
  have hl := leadText_len neg (leadDigits (W ++ P)) (leadPow W P hasE eneg X) (by omega) (by omega)
  refine public_pf _ 32 _ _ _ w hG hB (by rw [strL_size]; omega) (inner_pf _ 32 _ _ _ w (prefix32 _ neg _ w ?_))
  refine (atof32_lead neg _ _ w hG hB (leadDigits_dig hwp) leadDigits_ne leadDigits_first (by omega) ht).mono fun e w' ⟨⟨R, hR, he⟩, hb⟩ => ⟨⟨R, ?_, ?_⟩, hb⟩
  · rw [natOf_lead, valP_lead] at hR
    exact hR
  · rw [he, strL_size]
end
end Go.Proofs.YtdfodfflkmcgpaaGreatDoor
/- nums.readFloating, of a JSON number: the nearest, or the error. -/
namespace Go.Proofs.YtdfodfflkmcgpaaGreatDoor
open Go.RowKit Go.Sort Near Parse
set_option linter.unusedVariables false
set_option maxRecDepth 100000
attribute [local go_sem] unary_neg_f
/-- how the reading of a floating number ends. -/
def Rf (inf sg : Nat) (Q : Nat → Prop) (e : Ending) : Prop :=
  ∃ R, Q R ∧ e = .returned (if R < inf then .tuple #[.int .u64 (sg + R : Nat), .int .i64 0] else .tuple #[.int .u64 0, .int .i64 31])
theorem rf64_any {B : Nat} (s t : ByteArray) (neg : Bool) (Q : Nat → Prop) (w : World) (hG : Rich B w) (hB : B ≤ w.heap.size) (hs : s.size ≤ 900000000) (hne : 0 < s.size)
   (h1 : ∀ c, s.data.toList[0]? = some c → c ≠ 78 ∧ c ≠ 73) (h2 : s.data.toList[0]? = some 45 → ∀ c, s.data.toList[1]? = some c → c ≠ 73) (hn : numberN s.data.toList = s.size)
   (hl : ∀ w, Rich B w → B ≤ w.heap.size → Calls Tryz.prog 87 #[.string s] w fun e w' => e = .returned (.string t) ∧ Below B w w')
   (hp : ∀ w, Rich B w → B ≤ w.heap.size → Calls Tryz.prog 86 #[.string t, .int .i64 64] w fun e w' => Pub 9218868437227405312 (Fin64 neg) Q e ∧ Below B w w') :
    Calls Tryz.prog 59 #[.string s, .int .i64 64] w fun e w' => Rf 9218868437227405312 (sgn64 neg) Q e ∧ Below B w w' := by
  have HL := Lib.hid hl
  have HP := Lib.hid hp
  have HN := Lib.hid hn
  have hem : ¬ s = ByteArray.empty := fun h => by subst h; exact absurd hne (by decide)
  have n1 : (s.toList == [78, 97, 78]) = false := by
    rw [beq_eq_false_iff_ne, ByteArray.toList_eq]
    intro h; rw [h] at h1; exact (h1 78 rfl).1 rfl
  have n2 : (s.toList == [73, 110, 102, 105, 110, 105, 116, 121]) = false := by
    rw [beq_eq_false_iff_ne, ByteArray.toList_eq]
    intro h; rw [h] at h1; exact (h1 73 rfl).2 rfl
  have n3 : (s.toList == [45, 73, 110, 102, 105, 110, 105, 116, 121]) = false := by
    rw [beq_eq_false_iff_ne, ByteArray.toList_eq]
    intro h; rw [h] at h2; exact h2 rfl 73 rfl rfl
  have n4 : s.toList.isEmpty = false := by
    rw [ByteArray.toList_eq]
    cases hh : s.data.toList with
    | nil =>
      exfalso
      have : s.data.toList.length = 0 := by rw [hh]; rfl
      have h3 : s.data.toList.length = s.size := rfl
      omega
    | cons a b => rfl
  clear hl hp hn h1 h2
  go_enter Tryz.func59, Tryz.ntmps59
  go_wp2_with fail
  refine (number_any s _ (by omega)).mono ?_
  rintro e w1 ⟨rfl, hw⟩
  subst hw
  rw [HN.out]
  go_wp2_with fail
  refine (HL.out _ hG hB).mono ?_
  rintro e w2 ⟨rfl, hb2⟩
  go_wp2_with fail
  refine (HP.out _ (hG.below hb2) (Nat.le_trans hB hb2.size)).mono ?_
  rintro e w3 ⟨⟨R, hQ, ⟨hin, x, hF, rfl⟩ | ⟨hin, x, v, rfl⟩⟩, hb3⟩
  · have hbel := hb2.trans hb3
    have HQ := Lib.hid (And.intro hQ hF)
    clear hQ hF hb2 hb3
    have h55 : ∀ w, (callFunc 55 #[.float .f64 x]).run Tryz.prog w = .ok (.value (.int .u64 x)) w := fun w => by kernel_rfl
    go_wp2_with fail
    go_ret2
    refine ⟨⟨R, HQ.out.1, ?_⟩, hbel⟩
    rw [if_pos hin]
    have := HQ.out.2
    unfold Fin64 at this
    rw [← this]
    rfl
  · have hbel := hb2.trans hb3
    have HQ := Lib.hid hQ
    clear hQ hb2 hb3
    go_wp2_with fail
    go_ret2
    refine ⟨⟨R, HQ.out, ?_⟩, hbel⟩
    rw [if_neg (by omega)]
    rfl
theorem rf32_any {B : Nat} (s t : ByteArray) (neg : Bool) (Q : Nat → Prop) (w : World) (hG : Rich B w) (hB : B ≤ w.heap.size) (hs : s.size ≤ 900000000) (hne : 0 < s.size)
   (h1 : ∀ c, s.data.toList[0]? = some c → c ≠ 78 ∧ c ≠ 73) (h2 : s.data.toList[0]? = some 45 → ∀ c, s.data.toList[1]? = some c → c ≠ 73) (hn : numberN s.data.toList = s.size)
   (hl : ∀ w, Rich B w → B ≤ w.heap.size → Calls Tryz.prog 87 #[.string s] w fun e w' => e = .returned (.string t) ∧ Below B w w')
   (hp : ∀ w, Rich B w → B ≤ w.heap.size → Calls Tryz.prog 86 #[.string t, .int .i64 32] w fun e w' => Pub 2139095040 (Fin32 neg) Q e ∧ Below B w w') :
    Calls Tryz.prog 59 #[.string s, .int .i64 32] w fun e w' => Rf 2139095040 (sgn32 neg) Q e ∧ Below B w w' := by
  have HL := Lib.hid hl
  have HP := Lib.hid hp
  have HN := Lib.hid hn
  have n1 : (s.toList == [78, 97, 78]) = false := by
    rw [beq_eq_false_iff_ne, ByteArray.toList_eq]
    intro h; rw [h] at h1; exact (h1 78 rfl).1 rfl
  have n2 : (s.toList == [73, 110, 102, 105, 110, 105, 116, 121]) = false := by
    rw [beq_eq_false_iff_ne, ByteArray.toList_eq]
    intro h; rw [h] at h1; exact (h1 73 rfl).2 rfl
  have n3 : (s.toList == [45, 73, 110, 102, 105, 110, 105, 116, 121]) = false := by
    rw [beq_eq_false_iff_ne, ByteArray.toList_eq]
    intro h; rw [h] at h2; exact h2 rfl 73 rfl rfl
  have n4 : s.toList.isEmpty = false := by
    rw [ByteArray.toList_eq]
    cases hh : s.data.toList with
    | nil =>
      exfalso
      have : s.data.toList.length = 0 := by rw [hh]; rfl
      have h3 : s.data.toList.length = s.size := rfl
      omega
    | cons a b => rfl
  have hu : (Tryz.prog.underlying 59).isSome = true := by kernel_rfl
  have hd : Tryz.prog.underlying 60 = some (.float .f32) := by kernel_rfl
  have HU := Lib.hid (And.intro hu hd)
  have hsgl : sgn32 neg ≤ 2147483648 := by unfold sgn32; cases neg <;> simp
  obtain ⟨sg, hsg⟩ : ∃ sg, sg = sgn32 neg := ⟨_, rfl⟩
  rw [← hsg] at hsgl ⊢
  have HSG := Lib.hid hsg
  clear hl hp hn h1 h2 hu hd hsg
  go_enter Tryz.func59, Tryz.ntmps59
  go_wp2_with fail
  refine (number_any s _ (by omega)).mono ?_
  rintro e w1 ⟨rfl, hw⟩
  subst hw
  rw [HN.out]
  go_wp2_with fail
  refine (HL.out _ hG hB).mono ?_
  rintro e w2 ⟨rfl, hb2⟩
  go_wp2_with fail
  refine (HP.out _ (hG.below hb2) (Nat.le_trans hB hb2.size)).mono ?_
  rintro e w3 ⟨⟨R, hQ, ⟨hin, x, hF, rfl⟩ | ⟨hin, x, v, rfl⟩⟩, hb3⟩
  · have hbel := hb2.trans hb3
    unfold Fin32 at hF
    rw [← HSG.out] at hF
    obtain ⟨z, hz⟩ : ∃ z, z = sg + R := ⟨_, rfl⟩
    have hz32 : z < 4294967296 := by omega
    rw [← hz] at hF
    have hcv : ∀ w, (convert 59 60 (.float .f64 x)).run Tryz.prog w = .ok (.float .f32 z) w := fun w => run_convert_float_float w 59 60 .f64 .f32 _ _ HU.out.1 HU.out.2 hF
    have HQ := Lib.hid (And.intro hQ hz)
    clear hQ hF hb2 hb3 hz
    have h56 : ∀ w, (callFunc 56 #[.float .f32 z]).run Tryz.prog w = .ok (.value (.int .u32 z)) w := fun w => by kernel_rfl
    go_wp2_with fail
    go_ret2
    refine ⟨⟨R, HQ.out.1, ?_⟩, hbel⟩
    rw [if_pos hin, ← HQ.out.2]
    rfl
  · have hbel := hb2.trans hb3
    have HQ := Lib.hid hQ
    clear hQ hb2 hb3
    go_wp2_with fail
    go_ret2
    refine ⟨⟨R, HQ.out, ?_⟩, hbel⟩
    rw [if_neg (by omega)]
    rfl
end Go.Proofs.YtdfodfflkmcgpaaGreatDoor
/- Read and Whole of floating kinds, over readFloating. -/
namespace Go.Proofs.YtdfodfflkmcgpaaGreatDoor
open Go.RowKit Go.Sort Near Parse
set_option linter.unusedVariables false
set_option maxRecDepth 100000
theorem NumText.first {l : List UInt8} {neg : Bool} {W P : List UInt8} {hasP hasE : Bool} {ec : UInt8} {xt : List UInt8} {eneg : Bool} {X : List UInt8} (T : NumText l neg W P hasP hasE ec xt eneg X) :
    (∀ c, l[0]? = some c → c ≠ 78 ∧ c ≠ 73) ∧ (l[0]? = some 45 → ∀ c, l[1]? = some c → c ≠ 73) := by
  obtain ⟨d, r, rfl⟩ : ∃ d r, W = d :: r := by
    cases hh : W with
    | nil => exact absurd hh T.wne
    | cons d r => exact ⟨d, r, rfl⟩
  have hd := T.wdig d List.mem_cons_self
  have hf := T.form
  cases neg
  · have h0 : l[0]? = some d := by rw [hf]; rfl
    rw [h0]
    refine ⟨fun c hc => ?_, fun h => ?_⟩
    · rw [← Option.some.inj hc]
      exact ⟨dig_ne hd (.inr (by decide)), dig_ne hd (.inr (by decide))⟩
    · exfalso
      exact dig_ne hd (k := 45) (.inl (by decide)) (Option.some.inj h)
  · have h0 : l[0]? = some 45 := by rw [hf]; rfl
    have h1 : l[1]? = some d := by rw [hf]; rfl
    rw [h0, h1]
    refine ⟨fun c hc => ?_, fun _ c hc => ?_⟩
    · rw [← Option.some.inj hc]; decide
    · rw [← Option.some.inj hc]
      exact dig_ne hd (.inr (by decide))
theorem read_64 {B : Nat} (s : ByteArray) (sg : Nat) (Q : Nat → Prop) (w : World) (h : ∀ w', w' = w → Calls Tryz.prog 59 #[.string s, .int .i64 64] w' fun e w'' => Rf 9218868437227405312 sg Q e ∧ Below B w' w'') :
    Calls Tryz.prog 28 #[.int .u8 1, .string s] w fun e w' => Rf 9218868437227405312 sg Q e ∧ Below B w w' := by
  have H := Lib.hid h
  clear h
  go_enter Tryz.func28, Tryz.ntmps28
  go_wp2_with fail
  refine (sort_1 _).mono ?_
  rintro e w2 ⟨rfl, hw⟩
  subst hw
  go_wp2_with fail
  refine (H.out _ rfl).mono ?_
  rintro e w3 ⟨⟨R, hQ, rfl⟩, hb⟩
  have HQ := Lib.hid hQ
  clear hQ
  by_cases hin : R < 9218868437227405312
  · rw [if_pos hin]
    go_wp2_with fail
    go_ret2
    exact ⟨⟨R, HQ.out, by rw [if_pos hin]; rfl⟩, hb⟩
  · rw [if_neg hin]
    go_wp2_with fail
    go_ret2
    exact ⟨⟨R, HQ.out, by rw [if_neg hin]; rfl⟩, hb⟩
theorem whole_64 {B : Nat} (s : ByteArray) (sg : Nat) (Q : Nat → Prop) (w : World) (h : ∀ w', w' = w → Calls Tryz.prog 28 #[.int .u8 1, .string s] w' fun e w'' => Rf 9218868437227405312 sg Q e ∧ Below B w' w'') :
    Calls Tryz.prog 30 #[.int .u8 1, .string s] w fun e w' => Rf 9218868437227405312 sg Q e ∧ Below B w w' := by
  have H := Lib.hid h
  clear h
  go_enter Tryz.func30, Tryz.ntmps30
  go_wp2_with fail
  refine (sort_1 _).mono ?_
  rintro e w2 ⟨rfl, hw⟩
  subst hw
  go_wp2_with fail
  refine (H.out _ rfl).mono ?_
  rintro e w3 ⟨⟨R, hQ, rfl⟩, hb⟩
  have HQ := Lib.hid hQ
  clear hQ
  by_cases hin : R < 9218868437227405312
  · rw [if_pos hin]
    go_wp2_with fail
    go_ret2
    exact ⟨⟨R, HQ.out, by rw [if_pos hin]; rfl⟩, hb⟩
  · rw [if_neg hin]
    go_wp2_with fail
    go_ret2
    exact ⟨⟨R, HQ.out, by rw [if_neg hin]; rfl⟩, hb⟩
/-- Read of a number's text, no digit left out. -/
theorem read_num64 {B : Nat} {l : List UInt8} {neg : Bool} {W P : List UInt8} {hasP hasE : Bool} {ec : UInt8} {xt : List UInt8} {eneg : Bool} {X : List UInt8} (T : NumText l neg W P hasP hasE ec xt eneg X) (hw0 : W.length = 1 ∨ W[0]? ≠ some 48)
   (w : World) (hG : Rich B w) (hB : B ≤ w.heap.size) (hs : l.length ≤ 900000000) (ht : truncN (leadDigits (W ++ P)) (leadDigits (W ++ P)).length = false) :
    Calls Tryz.prog 28 #[.int .u8 1, .string (strL l)] w fun e w' => Rf 9218868437227405312 (sgn64 neg) (ReadsAs 52 1074 (valN W P) (valP P hasE eneg X)) e ∧ Below B w w' := by
  have hlen : 0 < l.length := by
    have := T.wlen
    have := List.length_pos_iff.2 T.wne
    omega
  refine read_64 _ _ _ w fun w' hw => ?_
  subst hw
  have hfirst := T.first
  refine rf64_any (strL l) _ neg _ _ hG hB (by rw [strL_size]; exact hs) (by rw [strL_size]; exact hlen) (by rw [strL_list]; exact hfirst.1) (by rw [strL_list]; exact hfirst.2) (by rw [strL_list, strL_size]; exact T.number hw0)
    (fun w h1 h2 => leading_all T w h1 h2 hs) (fun w h1 h2 => pf64_num T w h1 h2 hs ht)
theorem read_32 {B : Nat} (s : ByteArray) (sg : Nat) (Q : Nat → Prop) (w : World) (h : ∀ w', w' = w → Calls Tryz.prog 59 #[.string s, .int .i64 32] w' fun e w'' => Rf 2139095040 sg Q e ∧ Below B w' w'') :
    Calls Tryz.prog 28 #[.int .u8 2, .string s] w fun e w' => Rf 2139095040 sg Q e ∧ Below B w w' := by
  have H := Lib.hid h
  clear h
  go_enter Tryz.func28, Tryz.ntmps28
  go_wp2_with fail
  refine (sort_2 _).mono ?_
  rintro e w2 ⟨rfl, hw⟩
  subst hw
  go_wp2_with fail
  refine (H.out _ rfl).mono ?_
  rintro e w3 ⟨⟨R, hQ, rfl⟩, hb⟩
  have HQ := Lib.hid hQ
  clear hQ
  by_cases hin : R < 2139095040
  · rw [if_pos hin]
    go_wp2_with fail
    go_ret2
    exact ⟨⟨R, HQ.out, by rw [if_pos hin]; rfl⟩, hb⟩
  · rw [if_neg hin]
    go_wp2_with fail
    go_ret2
    exact ⟨⟨R, HQ.out, by rw [if_neg hin]; rfl⟩, hb⟩
theorem whole_32 {B : Nat} (s : ByteArray) (sg : Nat) (Q : Nat → Prop) (w : World) (h : ∀ w', w' = w → Calls Tryz.prog 28 #[.int .u8 2, .string s] w' fun e w'' => Rf 2139095040 sg Q e ∧ Below B w' w'') :
    Calls Tryz.prog 30 #[.int .u8 2, .string s] w fun e w' => Rf 2139095040 sg Q e ∧ Below B w w' := by
  have H := Lib.hid h
  clear h
  go_enter Tryz.func30, Tryz.ntmps30
  go_wp2_with fail
  refine (sort_2 _).mono ?_
  rintro e w2 ⟨rfl, hw⟩
  subst hw
  go_wp2_with fail
  refine (H.out _ rfl).mono ?_
  rintro e w3 ⟨⟨R, hQ, rfl⟩, hb⟩
  have HQ := Lib.hid hQ
  clear hQ
  by_cases hin : R < 2139095040
  · rw [if_pos hin]
    go_wp2_with fail
    go_ret2
    exact ⟨⟨R, HQ.out, by rw [if_pos hin]; rfl⟩, hb⟩
  · rw [if_neg hin]
    go_wp2_with fail
    go_ret2
    exact ⟨⟨R, HQ.out, by rw [if_neg hin]; rfl⟩, hb⟩
/-- Read of a number's text, no digit left out. -/
theorem read_num32 {B : Nat} {l : List UInt8} {neg : Bool} {W P : List UInt8} {hasP hasE : Bool} {ec : UInt8} {xt : List UInt8} {eneg : Bool} {X : List UInt8} (T : NumText l neg W P hasP hasE ec xt eneg X) (hw0 : W.length = 1 ∨ W[0]? ≠ some 48)
   (w : World) (hG : Rich B w) (hB : B ≤ w.heap.size) (hs : l.length ≤ 900000000) (ht : truncN (leadDigits (W ++ P)) (leadDigits (W ++ P)).length = false) :
    Calls Tryz.prog 28 #[.int .u8 2, .string (strL l)] w fun e w' => Rf 2139095040 (sgn32 neg) (ReadsAs 23 149 (valN W P) (valP P hasE eneg X)) e ∧ Below B w w' := by
  have hlen : 0 < l.length := by
    have := T.wlen
    have := List.length_pos_iff.2 T.wne
    omega
  refine read_32 _ _ _ w fun w' hw => ?_
  subst hw
  have hfirst := T.first
  refine rf32_any (strL l) _ neg _ _ hG hB (by rw [strL_size]; exact hs) (by rw [strL_size]; exact hlen) (by rw [strL_list]; exact hfirst.1) (by rw [strL_list]; exact hfirst.2) (by rw [strL_list, strL_size]; exact T.number hw0)
    (fun w h1 h2 => leading_all T w h1 h2 hs) (fun w h1 h2 => pf32_num T w h1 h2 hs ht)
end Go.Proofs.YtdfodfflkmcgpaaGreatDoor
