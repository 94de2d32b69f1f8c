/- lexiconlaw03.digits: a number's numeral. -/
import Derived.Test.YtdfodfflkmcgpaaGreatDoorZU
import Derived.Deep.LoopGhost
import Derived.Lib.AtoiErrMem
namespace Go.Proofs.YtdfodfflkmcgpaaGreatDoor
open Go.RowKit Go.Sort Go.Lib
set_option linter.unusedVariables false
set_option maxHeartbeats 1600000
set_option maxRecDepth 100000
/-- string([]byte{c}). -/
theorem one_byte (w : World) (c : UInt8) : (convert 43 9 (.slice (some ⟨w.heap.size, 0, none⟩) 1 1)).run Tryz.prog (w.alloc (.cells #[.int .u8 (c.toNat : Nat)] 5)) = .ok (.string (strL [c])) (w.alloc (.cells #[.int .u8 (c.toNat : Nat)] 5)) := by
  exact run_convert_bytes_back (P := Tryz.prog) (w.alloc (.cells #[.int .u8 (c.toNat : Nat)] 5)) 43 9 5 ⟨w.heap.size, 0, none⟩ 1 [c] Tryz.underlying43 Tryz.underlying5 Tryz.underlying9 (fun j hj => by
    have : j = 0 := by simpa using hj
    subst this
    simp [Addr.add])
theorem digC (m : Nat) : ∃ c : UInt8, c = UInt8.ofNat (48 + m % 10) ∧ ((48 : Int) + (m : Int) % 10) = (c.toNat : Nat) := by
  refine ⟨_, rfl, ?_⟩
  have : m % 10 < 10 := Nat.mod_lt _ (by omega)
  have e : (UInt8.ofNat (48 + m % 10)).toNat = 48 + m % 10 := by simp; omega
  rw [e]; omega
theorem dec_step {m : Nat} (h : ¬ m < 10) : Lib.decDigits m = Lib.decDigits (m / 10) ++ [UInt8.ofNat (48 + m % 10)] := by
  conv => lhs; rw [Lib.decDigits, dif_neg h]
theorem dnum_nonneg {B : Nat} (n : Nat) (w : World) (hB : B ≤ w.heap.size) (hn : n < 1000000000000000) :
    Calls Tryz.prog 33 #[.int .i64 (n : Nat)] w fun e w' => e = .returned (.string (strL (Lib.decDigits n))) ∧ Below B w w' := by
  have hb0 : Below B w w := Below.refl _ _
  go_enter Tryz.func33, Tryz.ntmps33
  go_wp2_with fail
  go_loopg [0, 3] (n + 1) (fun g s0 s3 wr => ∃ (m : Nat) (s : List UInt8), g = m + 1 ∧ s0 = .int .i64 m ∧ s3 = .string (strL s) ∧ m ≤ n ∧ s.length + Lib.nDigits m ≤ 1000 ∧ Hid (Lib.decDigits m ++ s = Lib.decDigits n ∧ Below B w wr))
  case atStart =>
    refine ⟨n, [], rfl, rfl, rfl, Nat.le_refl _, ?_, Lib.hid ⟨by simp, hb0⟩⟩
    have := Lib.nDigits_le20 n (by omega)
    simp; omega
  case round =>
    obtain ⟨m, s, hg, rfl, rfl, hm, hsl, hH⟩ := hrel
    obtain ⟨c, hc, hci⟩ := digC m
    have hcv := fun W => one_byte W c
    have hsz : (strL s).size = s.length := strL_size s
    have hsz1 : (strL [c]).size = 1 := rfl
    have hs9 : (strL s).size ≤ 1000 := by omega
    clear hsz
    have hcb : c.toNat < 256 := c.toNat_lt
    have hbr := hH.out.2
    have hBr := Nat.le_trans hB hbr.size
    have hnp := Lib.nDigits_pos m
    rcases Nat.lt_or_ge 9 m with h9 | h9
    · have hsl2 : (s.length + 1) + Lib.nDigits (m / 10) ≤ 1000 := by
        rw [Lib.nDigits_big (by omega)] at hsl; omega
      have HX : Hid (Lib.decDigits (m / 10) ++ (c :: s) = Lib.decDigits n ∧ s.length + 1 + Lib.nDigits (m / 10) ≤ 1000) := by
        refine Lib.hid ⟨?_, hsl2⟩
        rw [← hH.out.1, dec_step (m := m) (by omega), ← hc]
        simp
      have HB := Lib.hid (And.intro hbr hBr)
      clear hc hsl hsl2 hH hnp hbr hBr
      go_wp2_with fail
      go_roundg (m / 10 + 1)
      case measure => omega
      case rel =>
        refine ⟨m / 10, c :: s, rfl, by go_num, ?_, by omega, by rw [List.length_cons]; exact HX.out.2, Lib.hid ⟨HX.out.1, HB.out.1.alloc HB.out.2 _⟩⟩
        rw [strL_app]; rfl
    · have hm10 : (m : Int) % 10 = m := by omega
      rw [hm10] at hci
      have HX : Hid (c :: s = Lib.decDigits n) := by
        refine Lib.hid ?_
        rw [← hH.out.1, Lib.decDigits, dif_pos (by omega), hc, Nat.mod_eq_of_lt (by omega)]
        rfl
      have HB := Lib.hid (And.intro hbr hBr)
      clear hc hsl hH hnp hbr hBr hm10
      go_wp2_with fail
      go_ret
      refine ⟨?_, HB.out.1.alloc HB.out.2 _⟩
      rw [← HX.out, strL_app]; rfl
/-- digits, of whatever number. -/
theorem dnum_any {B : Nat} (n : Int) (w : World) (hB : B ≤ w.heap.size) (h0 : -1000000000000000 < n) (h1 : n < 1000000000000000) :
    Calls Tryz.prog 33 #[.int .i64 n] w fun e w' => e = .returned (.string (strL (Lib.itoa n))) ∧ Below B w w' := by
  by_cases hneg : n < 0
  · obtain ⟨u, hu⟩ : ∃ u : Nat, n = -(u : Int) := ⟨n.natAbs, by omega⟩
    subst hu
    have hu1 : 1 ≤ u := by omega
    have hlen : (strL (Lib.decDigits u)).size ≤ 100 := by
      rw [strL_size, Lib.decDigits_length]
      have := Lib.nDigits_le20 u (by omega)
      omega
    have hc := fun w h => dnum_nonneg (B := B) u w h (by omega)
    have HC := Lib.hid hc
    have HI : Hid (Lib.itoa (-(u : Int)) = 45 :: Lib.decDigits u) := Lib.hid (Lib.itoa_neg u hu1)
    clear hc
    go_enter Tryz.func33, Tryz.ntmps33
    go_wp2_with fail
    refine (HC.out _ hB).mono ?_
    rintro e w1 ⟨rfl, hb1⟩
    go_wp2_with fail
    go_ret
    refine ⟨?_, hb1⟩
    rw [HI.out]
    show Ending.returned (.string (strL [45] ++ strL (Lib.decDigits u))) = _
    rw [strL_app]; rfl
  · obtain ⟨u, rfl⟩ : ∃ u : Nat, n = u := ⟨n.toNat, by omega⟩
    have := dnum_nonneg (B := B) u w hB (by omega)
    rwa [Lib.itoa_nonneg]
end Go.Proofs.YtdfodfflkmcgpaaGreatDoor
/- lexiconlaw03.parts: a shown number's digits and the power of ten of the first one. -/
namespace Go.Proofs.YtdfodfflkmcgpaaGreatDoor
open Go.RowKit Go.Sort Go.Lib
set_option linter.unusedVariables false
set_option maxHeartbeats 3200000
set_option maxRecDepth 100000
/-- one byte of the front part. -/
def pstep (s : List UInt8 × Int × Bool) (c : UInt8) : List UInt8 × Int × Bool :=
  if c = 46 then (s.1, s.2.1, true) else if s.1 = [] ∧ c = 48 then (s.1, if s.2.2 then s.2.1 - 1 else s.2.1, s.2.2) else (s.1 ++ [c], if s.2.2 then s.2.1 else s.2.1 + 1, s.2.2)
def pfold (l : List UInt8) : List UInt8 × Int × Bool := l.foldl pstep ([], -1, false)
theorem pfold_succ {l : List UInt8} {k : Nat} (h : k < l.length) : pfold (l.take (k + 1)) = pstep (pfold (l.take k)) l[k] := by
  unfold pfold
  rw [take_succ_at h, List.foldl_append]; rfl
theorem pfold_bound (l : List UInt8) : (pfold l).1.length ≤ l.length ∧ -1 - (l.length : Int) ≤ (pfold l).2.1 ∧ (pfold l).2.1 ≤ l.length := by
  induction l using snoc_ind with
  | nil => simp [pfold]
  | append_singleton m c ih =>
    have e : pfold (m ++ [c]) = pstep (pfold m) c := by unfold pfold; rw [List.foldl_append]; rfl
    rw [e, List.length_append, List.length_singleton]
    unfold pstep
    repeat' split
    all_goals simp
    all_goals omega
/-- the exponent part: the sign's byte and digits; none. -/
def tailOf (hasE : Bool) (sg : UInt8) (E : List UInt8) : List UInt8 := if hasE then 101 :: sg :: E else []
theorem ext_one {l : List UInt8} {k : Nat} {c : UInt8} (h : l[k]? = some c) : (strL l).extract k (k + 1) = strL [c] := by
  obtain ⟨hk, hg⟩ := List.getElem?_eq_some_iff.1 h
  apply ba_eq
  rw [Lib.extract_data, strL_list, List.drop_eq_getElem_cons hk, hg, show k + 1 - k = 1 by omega]
  rfl
theorem get_strL {l : List UInt8} {k : Nat} {c : UInt8} (h : l[k]? = some c) (hk : k < (strL l).size) : (strL l)[k] = c := by
  have e : (strL l).data.toList[k]? = some (strL l)[k] := List.getElem?_eq_getElem hk
  rw [strL_list, h] at e
  exact (Option.some.inj e).symm
theorem byte_of {s : ByteArray} {l : List UInt8} (h : s = strL l) {m : Nat} {c : UInt8} (hc : l[m]? = some c) (hm : m < s.size) : s[m] = c := by
  subst h
  exact get_strL hc hm
theorem zerosL_snoc (n : Nat) : zerosL (n + 1) = zerosL n ++ [48] := by
  induction n with
  | zero => rfl
  | succ n ih =>
    show 48 :: zerosL (n + 1) = 48 :: zerosL n ++ [48]
    rw [ih]; rfl
theorem parts_walk {B : Nat} (body : List UInt8) (hasE : Bool) (sg : UInt8) (E D : List UInt8) (x0 : Int) (pt : Bool) (j0 : Nat) (w : World) (hb : ∀ c ∈ body, c ≠ 101) (hlen : body.length ≤ 2000) (hE : E.length ≤ 5) (hEd : ∀ c ∈ E, isDig c) (hE0 : hasE = true → 1 ≤ E.length)
   (hf : pfold body = (D ++ zerosL j0, x0, pt)) (hD : D ≠ []) (hlast : ∀ c, D[D.length - 1]? = some c → c ≠ 48) :
    Calls Tryz.prog 32 #[.string (strL (body ++ tailOf hasE sg E))] w fun e w' => e = .returned (.tuple #[.string (strL D), .int .i64 (x0 + if hasE then (if sg = 45 then -(natOf E : Int) else natOf E) else 0)]) ∧ w' = w := by
  obtain ⟨l, hl⟩ : ∃ l, l = body ++ tailOf hasE sg E := ⟨_, rfl⟩
  rw [← hl]
  obtain ⟨RR, hRR⟩ : ∃ RR : Int, RR = x0 + if hasE then (if sg = 45 then -(natOf E : Int) else natOf E) else 0 := ⟨_, rfl⟩
  rw [← hRR]
  have HRR := Lib.hid hRR
  clear hRR
  have hls : (strL l).size = l.length := strL_size l
  have hll : l.length = body.length + (tailOf hasE sg E).length := by rw [hl, List.length_append]
  have htl : (tailOf hasE sg E).length = if hasE then 2 + E.length else 0 := by
    unfold tailOf; cases hasE <;> simp; omega
  have hll2 : l.length ≤ 2010 := by rw [hll, htl]; split <;> omega
  obtain ⟨bl, hbl⟩ : ∃ bl, bl = body.length := ⟨_, rfl⟩
  have HL := Lib.hid (And.intro hl (And.intro hls (And.intro hll (And.intro htl hbl))))
  have hsz : (strL l).size ≤ 2010 := by omega
  have hblb : bl ≤ (strL l).size := by omega
  have hbl2 : bl ≤ 2000 := by omega
  have HB := Lib.hid (And.intro hb (And.intro hf (And.intro hD (And.intro hlast (And.intro hEd (And.intro hE hE0))))))
  clear hl hls hll htl hll2 hbl hb hf hD hlast hEd hE hE0 hlen
  go_enter Tryz.func32, Tryz.ntmps32
  go_wp2_with fail
  go_loopg [4, 5, 6, 7] (bl + 1) (fun n s4 s5 s6 s7 wr => ∃ (k : Nat) (d : List UInt8) (x : Int) (p : Bool), n = bl + 1 - k ∧ w = wr ∧ s4 = .string (strL d) ∧ s5 = .int .i64 x ∧ s6 = .bool p ∧ s7 = .int .i64 k ∧ k ≤ bl ∧ d.length ≤ 2000 ∧ -3000 ≤ x ∧ x ≤ 3000 ∧ Hid (pfold (body.take k) = (d, x, p)))
  case atStart => exact ⟨0, [], -1, false, rfl, rfl, rfl, rfl, rfl, rfl, Nat.zero_le _, by decide, by omega, by omega, Lib.hid rfl⟩
  case round =>
    obtain ⟨k, d, x, p, hgk, hw, rfl, rfl, rfl, rfl, hk, hd, hx0, hx1, hH⟩ := hrel
    subst hw
    rcases Nat.lt_or_ge k bl with hlt | hge
    · have hkb : k < body.length := by have := HL.out.2.2.2.2; omega
      have hkl : k < l.length := by have := HL.out.2.2.1; omega
      have hks : k < (strL l).size := by omega
      obtain ⟨c, hc⟩ : ∃ c, c = body[k] := ⟨_, rfl⟩
      have hlc : l[k]? = some c := by rw [HL.out.1, List.getElem?_append_left hkb, List.getElem?_eq_getElem hkb, hc]
      have hsc := get_strL hlc hks
      have hex := ext_one hlc
      have hsl : ∀ W, (Instr.slice 9 (.string (strL l)) (some (.int .i64 (k : Int))) (some (.int .i64 ((k : Int) + 1))) none).run Tryz.prog W = .ok (.string (strL [c])) W := fun W => by
        rw [run_slice_string W 9 (strL l) .i64 .i64 (k : Int) ((k : Int) + 1) Tryz.underlying9 (by omega) (by omega) (by omega), Int.toNat_natCast, show ((k : Int) + 1).toNat = k + 1 by omega, hex]
      clear hex
      have hn101 : ¬ c.toNat = 101 := fun h => HB.out.1 body[k] (List.getElem_mem hkb) (by rw [← hc]; exact UInt8.toNat.inj (by show _ = 101; omega))
      have hst := pfold_succ hkb
      rw [hH.out, ← hc] at hst
      have hbd := pfold_bound (body.take (k + 1))
      have htk : (body.take (k + 1)).length ≤ 2000 := by have := HL.out.2.2.2.2; rw [List.length_take]; omega
      have HST := Lib.hid (And.intro hst (And.intro hbd htk))
      have hdz : (strL d).size = d.length := strL_size d
      have h1z : (strL [c]).size = 1 := rfl
      have hdz2 : (strL d).size ≤ 2000 := by omega
      clear hst hbd htk hH hlc hkl hkb hc
      by_cases h46 : c = 46
      · subst h46
        have hn : pfold (body.take (k + 1)) = (d, x, true) := HST.out.1
        have HN := Lib.hid hn
        clear hn hn101
        go_wp2_with fail
        go_roundg (bl + 1 - (k + 1))
        case measure => omega
        case rel => exact ⟨k + 1, d, x, true, rfl, rfl, rfl, rfl, rfl, by go_num, hlt, hd, hx0, hx1, Lib.hid HN.out⟩
      · have b101 : ((c.toNat : Int) == 101) = false := by rw [beq_eq_false_iff_ne]; omega
        have b46 : ((c.toNat : Int) == 46) = false := by
          rw [beq_eq_false_iff_ne]; intro h; exact h46 (UInt8.toNat.inj (by show _ = 46; omega))
        by_cases h48 : d = [] ∧ c = 48
        · obtain ⟨hd0, hc48⟩ := h48
          subst hd0 hc48
          have hdz0 : (strL []).size = 0 := rfl
          clear hdz2
          cases p
          · have hn : pfold (body.take (k + 1)) = ([], x, false) := by rw [HST.out.1]; rfl
            have HN := Lib.hid hn
            clear hn hn101
            go_wp2_with fail
            go_roundg (bl + 1 - (k + 1))
            case measure => omega
            case rel => exact ⟨k + 1, [], x, false, rfl, rfl, rfl, rfl, rfl, by go_num, hlt, hd, hx0, hx1, Lib.hid HN.out⟩
          · have hn : pfold (body.take (k + 1)) = ([], x - 1, true) := by rw [HST.out.1]; rfl
            have HN := Lib.hid hn
            have hb2 : -3000 ≤ x - 1 := by
              have h1 := HST.out.2.1
              rw [hn] at h1
              have h2 := h1.2.1
              have h3 := HST.out.2.2
              simp only at h2
              omega
            clear hn hn101
            go_wp2_with fail
            go_roundg (bl + 1 - (k + 1))
            case measure => omega
            case rel => exact ⟨k + 1, [], x - 1, true, rfl, rfl, rfl, rfl, rfl, by go_num, hlt, hd, hb2, by omega, Lib.hid HN.out⟩
        · have hn : pfold (body.take (k + 1)) = (d ++ [c], if p then x else x + 1, p) := by
            rw [HST.out.1]; unfold pstep
            rw [if_neg h46, if_neg h48]
          have hbb := HST.out.2.1
          rw [hn] at hbb
          have hb1 : (d ++ [c]).length ≤ 2000 := Nat.le_trans hbb.1 HST.out.2.2
          have hb3 := hbb.2.2
          have hb4 := HST.out.2.2
          simp only at hb3
          by_cases hd0 : d = []
          · subst hd0
            have b48 : ((c.toNat : Int) == 48) = false := by
              rw [beq_eq_false_iff_ne]
              intro h
              exact h48 ⟨rfl, UInt8.toNat.inj (by show _ = 48; omega)⟩
            have hdz0 : (strL []).size = 0 := rfl
            cases p
            · have HN := Lib.hid (And.intro hn hb1)
              have hb5 : x + 1 ≤ 3000 := by simp only [Bool.false_eq_true, if_false] at hb3; omega
              clear hn hn101 hbb hb1 hb3 hb4 HST h48 hdz2 hdz
              go_wp2_with fail
              go_roundg (bl + 1 - (k + 1))
              case measure => omega
              case rel => exact ⟨k + 1, [] ++ [c], x + 1, false, rfl, rfl, (by rw [← strL_app]), rfl, rfl, by go_num, hlt, HN.out.2, by omega, hb5, Lib.hid HN.out.1⟩
            · have HN := Lib.hid (And.intro hn hb1)
              clear hn hn101 hbb hb1 hb3 hb4 HST h48 hdz2 hdz
              go_wp2_with fail
              go_roundg (bl + 1 - (k + 1))
              case measure => omega
              case rel => exact ⟨k + 1, [] ++ [c], x, true, rfl, rfl, (by rw [← strL_app]), rfl, rfl, by go_num, hlt, HN.out.2, hx0, hx1, Lib.hid HN.out.1⟩
          · have b0 : (((strL d).size : Int) == 0) = false := by
              have := List.length_pos_iff.2 hd0
              rw [beq_eq_false_iff_ne]; omega
            have b1 : 0 < (strL d).size := by
              have := List.length_pos_iff.2 hd0
              omega
            cases p
            · have HN := Lib.hid (And.intro hn hb1)
              have hb5 : x + 1 ≤ 3000 := by simp only [Bool.false_eq_true, if_false] at hb3; omega
              clear hn hn101 hbb hb1 hb3 hb4 HST h48 hdz hd0
              go_wp2_with fail
              go_roundg (bl + 1 - (k + 1))
              case measure => omega
              case rel => exact ⟨k + 1, d ++ [c], x + 1, false, rfl, rfl, (by rw [← strL_app]), rfl, rfl, by go_num, hlt, HN.out.2, by omega, hb5, Lib.hid HN.out.1⟩
            · have HN := Lib.hid (And.intro hn hb1)
              clear hn hn101 hbb hb1 hb3 hb4 HST h48 hdz hd0
              go_wp2_with fail
              go_roundg (bl + 1 - (k + 1))
              case measure => omega
              case rel => exact ⟨k + 1, d ++ [c], x, true, rfl, rfl, (by rw [← strL_app]), rfl, rfl, by go_num, hlt, HN.out.2, hx0, hx1, Lib.hid HN.out.1⟩
    · have hkbl : k = bl := by omega
      subst hkbl
      have hfold : (d, x, p) = (D ++ zerosL j0, x0, pt) := by
        rw [← hH.out, HL.out.2.2.2.2, List.take_length]; exact HB.out.2.1
      injection hfold with h1 h2
      injection h2 with h2 h3
      subst h1 h2 h3
      have HJ : Hid (D.length + j0 ≤ 2000) := by
        refine Lib.hid ?_
        rw [List.length_append, zeros_len] at hd
        exact hd
      clear hH hgk hge hk hd
      obtain ⟨sd0, hsd0⟩ : ∃ sd0, sd0 = strL (D ++ zerosL j0) := ⟨_, rfl⟩
      have HD0 : Hid (sd0 = strL (D ++ zerosL j0)) := Lib.hid hsd0
      rw [← hsd0]
      clear hsd0
      cases hasE
      · have hszb : (strL l).size = k := by
          have h9 : (tailOf false sg E).length = 0 := rfl
          have := HL.out.2.1
          have := HL.out.2.2.1
          have := HL.out.2.2.2.2
          omega
        clear hsz hblb
        go_wp2_with fail
        go_loopg [4] (j0 + 1) (fun n s4 wr => ∃ (j : Nat) (sd : ByteArray), n = j + 1 ∧ w = wr ∧ s4 = .string sd ∧ j ≤ j0 ∧ Hid (sd = strL (D ++ zerosL j)))
        case atStart => exact ⟨j0, _, rfl, rfl, rfl, Nat.le_refl _, Lib.hid HD0.out⟩
        case round =>
          obtain ⟨j, sd, hgk2, hw, rfl, hj, hH2⟩ := hrel
          subst hw
          have hDl : 1 ≤ D.length := List.length_pos_iff.2 HB.out.2.2.1
          obtain ⟨m, hm⟩ : ∃ m : Nat, sd.size = m + 1 := ⟨D.length + j - 1, by
            rw [hH2.out, strL_size, List.length_append, zeros_len]; omega⟩
          have hmv : m + 1 = D.length + j := by rw [← hm, hH2.out, strL_size, List.length_append, zeros_len]
          have hmb : m ≤ 2010 := by have := HJ.out; omega
          have hbyte : ∀ (c : UInt8), (D ++ zerosL j)[m]? = some c → ∀ h : m < sd.size, sd[m] = c := fun c hc h => byte_of hH2.out hc h
          cases j with
          | zero =>
            have hsd : sd = strL D := by rw [hH2.out]; show strL (D ++ []) = _; rw [List.append_nil]
            have hgm : m < D.length := by omega
            have hlast := HB.out.2.2.2.1 D[m] (by rw [show D.length - 1 = m by omega]; exact List.getElem?_eq_getElem hgm)
            have hsb := hbyte D[m] (by show (D ++ [])[m]? = _; rw [List.append_nil]; exact List.getElem?_eq_getElem hgm) (by omega)
            obtain ⟨c, hc⟩ : ∃ c, c = D[m] := ⟨_, rfl⟩
            rw [← hc] at hsb hlast
            have b48 : ((c.toNat : Int) == 48) = false := by
              rw [beq_eq_false_iff_ne]; intro h; exact hlast (UInt8.toNat.inj (by show _ = 48; omega))
            have HSD := Lib.hid hsd
            clear hsd hH2 hbyte hlast hc hmv
            rcases Nat.eq_zero_or_pos m with hm0 | hm0
            · subst hm0
              go_wp2_with fail
              go_ret2
              refine ⟨?_, rfl⟩
              rw [HSD.out, HRR.out, if_neg (by simp), Int.add_zero]
              rfl
            · have hm1 : (1 : Int) < (m : Int) + 1 := by omega
              go_wp2_with fail
              go_ret2
              refine ⟨?_, rfl⟩
              rw [HSD.out, HRR.out, if_neg (by simp), Int.add_zero]
              rfl
          | succ j =>
            have hz : zerosL (j + 1) = zerosL j ++ [48] := zerosL_snoc j
            have hgm : (D ++ zerosL (j + 1))[m]? = some 48 := by
              rw [hz, ← List.append_assoc, List.getElem?_append_right (by rw [List.length_append, zeros_len]; omega), List.length_append, zeros_len, show m - (D.length + j) = 0 by omega]
              rfl
            have hsb := hbyte 48 hgm (by omega)
            have hto : sd.extract 0 m = strL (D ++ zerosL j) := by
              rw [hH2.out, strL_to, hz, ← List.append_assoc, List.take_append_of_le_length (by rw [List.length_append, zeros_len]; omega), List.take_of_length_le (by rw [List.length_append, zeros_len]; omega)]
            have hm1 : (1 : Int) < (m : Int) + 1 := by omega
            have HX := Lib.hid hto
            clear hH2 hbyte hgm hz hto hmv
            go_wp2_with fail
            go_roundg (j + 1)
            case measure => omega
            case rel => exact ⟨j, _, rfl, rfl, rfl, by omega, Lib.hid HX.out⟩

      · obtain ⟨EL, hEL⟩ : ∃ EL, EL = E.length := ⟨_, rfl⟩
        have hszb : (strL l).size = k + 2 + EL := by
          have h9 : (tailOf true sg E).length = E.length + 2 := rfl
          have := HL.out.2.1
          have := HL.out.2.2.1
          have := HL.out.2.2.2.2
          omega
        have hlg : ∀ i, (body ++ (101 :: sg :: E))[k + i]? = (101 :: sg :: E)[i]? := by
          intro i
          have := HL.out.2.2.2.2
          rw [List.getElem?_append_right (by omega)]
          congr 1; omega
        have hl2 : l = body ++ (101 :: sg :: E) := HL.out.1
        have h101 : l[k]? = some 101 := by rw [hl2]; exact hlg 0
        have hsgl : l[k + 1]? = some sg := by rw [hl2]; exact hlg 1
        have hEl : ∀ q (h : q < E.length), l[k + 2 + q]? = some E[q] := by
          intro q h
          rw [hl2, show k + 2 + q = k + (q + 2) by omega, hlg]
          show E[q]? = _
          exact List.getElem?_eq_getElem h
        have hk0 : k < (strL l).size := by omega
        have hs101 := get_strL h101 hk0
        have hklt : (k : Int) < ((strL l).size : Int) := by omega
        have HE := Lib.hid (And.intro hEL (And.intro hszb (And.intro hsgl hEl)))
        have hELb : EL ≤ 5 := by rw [hEL]; exact HB.out.2.2.2.2.2.1
        clear hlg hl2 h101 hsgl hEl hEL hszb
        go_wp2_with fail
        go_loopg [4] (j0 + 1) (fun n s4 wr => ∃ (j : Nat) (sd : ByteArray), n = j + 1 ∧ w = wr ∧ s4 = .string sd ∧ j ≤ j0 ∧ Hid (sd = strL (D ++ zerosL j)))
        case atStart => exact ⟨j0, _, rfl, rfl, rfl, Nat.le_refl _, Lib.hid HD0.out⟩
        case round =>
          obtain ⟨j, sd, hgk2, hw, rfl, hj, hH2⟩ := hrel
          subst hw
          have hDl : 1 ≤ D.length := List.length_pos_iff.2 HB.out.2.2.1
          obtain ⟨m, hm⟩ : ∃ m : Nat, sd.size = m + 1 := ⟨D.length + j - 1, by
            rw [hH2.out, strL_size, List.length_append, zeros_len]; omega⟩
          have hmv : m + 1 = D.length + j := by rw [← hm, hH2.out, strL_size, List.length_append, zeros_len]
          have hmb : m ≤ 2010 := by have := HJ.out; omega
          have hbyte : ∀ (c : UInt8), (D ++ zerosL j)[m]? = some c → ∀ h : m < sd.size, sd[m] = c := fun c hc h => byte_of hH2.out hc h
          cases j with
          | zero =>
            have hsd : sd = strL D := by rw [hH2.out]; show strL (D ++ []) = _; rw [List.append_nil]
            have hgm : m < D.length := by omega
            have hlast := HB.out.2.2.2.1 D[m] (by rw [show D.length - 1 = m by omega]; exact List.getElem?_eq_getElem hgm)
            have hsb := hbyte D[m] (by show (D ++ [])[m]? = _; rw [List.append_nil]; exact List.getElem?_eq_getElem hgm) (by omega)
            obtain ⟨c, hc⟩ : ∃ c, c = D[m] := ⟨_, rfl⟩
            rw [← hc] at hsb hlast
            have b48 : ((c.toNat : Int) == 48) = false := by
              rw [beq_eq_false_iff_ne]; intro h; exact hlast (UInt8.toNat.inj (by show _ = 48; omega))
            have HSD := Lib.hid hsd
            clear hsd hH2 hbyte hlast hc hmv
            rcases Nat.eq_zero_or_pos m with hm0 | hm0
            · subst hm0
              go_wp2_with fail
              go_loopg [8, 9] (EL + 1) (fun n s8 s9 wr => ∃ q y : Nat, n = EL + 1 - q ∧ w = wr ∧ s8 = .int .i64 y ∧ s9 = .int .i64 ((k : Int) + 2 + q) ∧ q ≤ EL ∧ y < 1000000 ∧ Hid (y = natOf (E.take q)))
              case atStart => exact ⟨0, 0, rfl, rfl, rfl, by go_num, Nat.zero_le _, by omega, Lib.hid rfl⟩
              case round =>
                obtain ⟨q, y, hgk3, hw, rfl, rfl, hq, hy, hH3⟩ := hrel
                subst hw
                rcases Nat.lt_or_ge q EL with hql | hqg
                · have hqE : q < E.length := by have := HE.out.1; omega
                  have hlq := HE.out.2.2.2 q hqE
                  have hks2 : k + 2 + q < (strL l).size := by have := HE.out.1; have := HE.out.2.1; omega
                  have hsq := get_strL hlq hks2
                  have hdq := HB.out.2.2.2.2.1 E[q] (List.getElem_mem hqE)
                  unfold isDig at hdq
                  have hn := natOf_take_succ hqE
                  have hnl := natOf_take_lt HB.out.2.2.2.2.1 (q + 1)
                  have hp5 : 10 ^ (q + 1) ≤ 10 ^ 5 := Nat.pow_le_pow_right (by omega) (by have := HB.out.2.2.2.2.2.1; omega)
                  obtain ⟨c, hc⟩ : ∃ c, c = E[q] := ⟨_, rfl⟩
                  rw [← hc] at hsq hdq hn
                  rw [← hH3.out] at hn
                  have hyn : 10 * y + (c.toNat - 48) = natOf (E.take (q + 1)) := by omega
                  have hyb : 10 * y + (c.toNat - 48) < 1000000 := by
                    have : (10 : Nat) ^ 5 = 100000 := rfl
                    omega
                  obtain ⟨y2, hy2⟩ : ∃ y2 : Nat, y2 = 10 * y + (c.toNat - 48) := ⟨_, rfl⟩
                  rw [← hy2] at hyn hyb
                  have e1 : 10 * (y : Int) + ((c.toNat : Int) - 48) = y2 := by omega
                  have hli : (k : Int) + 2 + q < ((strL l).size : Int) := by omega
                  have HX := Lib.hid hyn
                  clear hlq hn hnl hp5 hc hyn hy2 hH3 hqE
                  go_wp2_with fail
                  go_roundg (EL + 1 - (q + 1))
                  case measure => omega
                  case rel => exact ⟨q + 1, y2, rfl, rfl, rfl, by go_num, hql, hyb, Lib.hid HX.out⟩
                · have hqe : q = EL := by omega
                  subst hqe
                  have hyE : y = natOf E := by rw [hH3.out, HE.out.1, List.take_length]
                  have HY := Lib.hid hyE
                  have hgi : ((strL l).size : Int) ≤ (k : Int) + 2 + q := by have := HE.out.2.1; omega
                  have hk1l : (k : Int) + 1 < ((strL l).size : Int) := by have := HE.out.2.1; omega
                  have hk1n : k + 1 < (strL l).size := by omega
                  have hsg := get_strL HE.out.2.2.1 hk1n
                  clear hyE hH3
                  by_cases h45 : sg = 45
                  · have h45n : sg.toNat = 45 := by rw [h45]; rfl
                    have HSG := Lib.hid h45
                    clear h45
                    go_wp2_with fail
                    go_ret2
                    refine ⟨?_, rfl⟩
                    rw [HSD.out, HRR.out, if_pos HSG.out, ← HY.out]
                    rfl
                  · have b45 : ((sg.toNat : Int) == 45) = false := by
                      rw [beq_eq_false_iff_ne]; intro h; exact h45 (UInt8.toNat.inj (by show _ = 45; omega))
                    go_wp2_with fail
                    go_ret2
                    refine ⟨?_, rfl⟩
                    rw [HSD.out, HRR.out, if_neg h45, ← HY.out]
                    rfl
            · have hm1 : (1 : Int) < (m : Int) + 1 := by omega
              go_wp2_with fail
              go_loopg [8, 9] (EL + 1) (fun n s8 s9 wr => ∃ q y : Nat, n = EL + 1 - q ∧ w = wr ∧ s8 = .int .i64 y ∧ s9 = .int .i64 ((k : Int) + 2 + q) ∧ q ≤ EL ∧ y < 1000000 ∧ Hid (y = natOf (E.take q)))
              case atStart => exact ⟨0, 0, rfl, rfl, rfl, by go_num, Nat.zero_le _, by omega, Lib.hid rfl⟩
              case round =>
                obtain ⟨q, y, hgk3, hw, rfl, rfl, hq, hy, hH3⟩ := hrel
                subst hw
                rcases Nat.lt_or_ge q EL with hql | hqg
                · have hqE : q < E.length := by have := HE.out.1; omega
                  have hlq := HE.out.2.2.2 q hqE
                  have hks2 : k + 2 + q < (strL l).size := by have := HE.out.1; have := HE.out.2.1; omega
                  have hsq := get_strL hlq hks2
                  have hdq := HB.out.2.2.2.2.1 E[q] (List.getElem_mem hqE)
                  unfold isDig at hdq
                  have hn := natOf_take_succ hqE
                  have hnl := natOf_take_lt HB.out.2.2.2.2.1 (q + 1)
                  have hp5 : 10 ^ (q + 1) ≤ 10 ^ 5 := Nat.pow_le_pow_right (by omega) (by have := HB.out.2.2.2.2.2.1; omega)
                  obtain ⟨c, hc⟩ : ∃ c, c = E[q] := ⟨_, rfl⟩
                  rw [← hc] at hsq hdq hn
                  rw [← hH3.out] at hn
                  have hyn : 10 * y + (c.toNat - 48) = natOf (E.take (q + 1)) := by omega
                  have hyb : 10 * y + (c.toNat - 48) < 1000000 := by
                    have : (10 : Nat) ^ 5 = 100000 := rfl
                    omega
                  obtain ⟨y2, hy2⟩ : ∃ y2 : Nat, y2 = 10 * y + (c.toNat - 48) := ⟨_, rfl⟩
                  rw [← hy2] at hyn hyb
                  have e1 : 10 * (y : Int) + ((c.toNat : Int) - 48) = y2 := by omega
                  have hli : (k : Int) + 2 + q < ((strL l).size : Int) := by omega
                  have HX := Lib.hid hyn
                  clear hlq hn hnl hp5 hc hyn hy2 hH3 hqE
                  go_wp2_with fail
                  go_roundg (EL + 1 - (q + 1))
                  case measure => omega
                  case rel => exact ⟨q + 1, y2, rfl, rfl, rfl, by go_num, hql, hyb, Lib.hid HX.out⟩
                · have hqe : q = EL := by omega
                  subst hqe
                  have hyE : y = natOf E := by rw [hH3.out, HE.out.1, List.take_length]
                  have HY := Lib.hid hyE
                  have hgi : ((strL l).size : Int) ≤ (k : Int) + 2 + q := by have := HE.out.2.1; omega
                  have hk1l : (k : Int) + 1 < ((strL l).size : Int) := by have := HE.out.2.1; omega
                  have hk1n : k + 1 < (strL l).size := by omega
                  have hsg := get_strL HE.out.2.2.1 hk1n
                  clear hyE hH3
                  by_cases h45 : sg = 45
                  · have h45n : sg.toNat = 45 := by rw [h45]; rfl
                    have HSG := Lib.hid h45
                    clear h45
                    go_wp2_with fail
                    go_ret2
                    refine ⟨?_, rfl⟩
                    rw [HSD.out, HRR.out, if_pos HSG.out, ← HY.out]
                    rfl
                  · have b45 : ((sg.toNat : Int) == 45) = false := by
                      rw [beq_eq_false_iff_ne]; intro h; exact h45 (UInt8.toNat.inj (by show _ = 45; omega))
                    go_wp2_with fail
                    go_ret2
                    refine ⟨?_, rfl⟩
                    rw [HSD.out, HRR.out, if_neg h45, ← HY.out]
                    rfl
          | succ j =>
            have hz : zerosL (j + 1) = zerosL j ++ [48] := zerosL_snoc j
            have hgm : (D ++ zerosL (j + 1))[m]? = some 48 := by
              rw [hz, ← List.append_assoc, List.getElem?_append_right (by rw [List.length_append, zeros_len]; omega), List.length_append, zeros_len, show m - (D.length + j) = 0 by omega]
              rfl
            have hsb := hbyte 48 hgm (by omega)
            have hto : sd.extract 0 m = strL (D ++ zerosL j) := by
              rw [hH2.out, strL_to, hz, ← List.append_assoc, List.take_append_of_le_length (by rw [List.length_append, zeros_len]; omega), List.take_of_length_le (by rw [List.length_append, zeros_len]; omega)]
            have hm1 : (1 : Int) < (m : Int) + 1 := by omega
            have HX := Lib.hid hto
            clear hH2 hbyte hgm hz hto hmv
            go_wp2_with fail
            go_roundg (j + 1)
            case measure => omega
            case rel => exact ⟨j, _, rfl, rfl, rfl, by omega, Lib.hid HX.out⟩
end Go.Proofs.YtdfodfflkmcgpaaGreatDoor
/- lexiconlaw03.more: digits as a whole number, and one. -/
namespace Go.Proofs.YtdfodfflkmcgpaaGreatDoor
open Go.RowKit Go.Sort
set_option linter.unusedVariables false
set_option maxHeartbeats 1600000
set_option maxRecDepth 100000
/-- a row of bytes at the head of a block. -/
def RowB (w : World) (g : Nat) (l : List UInt8) : Prop := (∀ j (h : j < l.length), w.cell? ⟨g, j, none⟩ = some (.int .u8 (l[j].toNat : Nat))) ∧ ∀ j, j < l.length → w.frozen? ⟨g, j, none⟩ = false
theorem RowB.set {w : World} {g : Nat} {l : List UInt8} (h : RowB w g l) {i : Nat} (hi : i < l.length) (c : UInt8) : RowB (w.setCell ⟨g, i, none⟩ (.int .u8 (c.toNat : Nat))) g (l.set i c) := by
  refine ⟨fun j hj => ?_, fun j hj => ?_⟩
  · rw [List.length_set] at hj
    by_cases hji : j = i
    · subst hji
      rw [World.cell?_setCell_same _ _ _ (h.1 j hi), List.getElem_set_self]
    · rw [World.cell?_setCell_other _ _ _ _ (by simp; try omega), List.getElem_set_ne (by omega)]
      exact h.1 j hj
  · rw [List.length_set] at hj
    rw [World.frozen?_setCell]; exact h.2 j hj
theorem RowB.conv {w : World} {g cap : Nat} {l : List UInt8} (h : RowB w g l) : (convert 43 9 (.slice (some ⟨g, 0, none⟩) l.length cap)).run Tryz.prog w = .ok (.string (strL l)) w :=
  run_convert_bytes_back (P := Tryz.prog) w 43 9 5 ⟨g, 0, none⟩ cap l Tryz.underlying43 Tryz.underlying5 Tryz.underlying9 (fun j hj => by
    have e : (⟨g, 0, none⟩ : Addr).add j = ⟨g, j, none⟩ := by
      cases j with
      | zero => rfl
      | succ j => simp [Addr.add]
    rw [e]; exact h.1 j hj)
theorem rowB_of (w : World) (l : List UInt8) : RowB (Lib.bytesWorld w 5 (strL l)) w.heap.size l := by
  refine ⟨fun j hj => ?_, fun j hj => ?_⟩
  · rw [Lib.bytesWorld_cell w 5 (strL l) j (by rw [strL_size]; exact hj), strL_list, List.getD_eq_getElem?_getD, List.getElem?_eq_getElem hj]
    rfl
  · have h := Lib.bytesWorld_at_new w 5 (strL l)
    have hsz : l.length ≤ (Lib.bytesCells w 5 (strL l)).size := by
      unfold Lib.bytesCells
      rw [Array.size_append, Array.size_map]
      have : (strL l).data.size = l.length := strL_size l
      omega
    simp [World.frozen?, h]
    omega
/-- nines behind the k-th digit. -/
def Nines (l : List UInt8) (k : Nat) : Prop := ∀ j (h : j < l.length), k ≤ j → l[j] = 57
theorem natOf_nines {l : List UInt8} (h : ∀ c ∈ l, c = 57) : natOf l + 1 = 10 ^ l.length := by
  induction l using snoc_ind with
  | nil => rfl
  | append_singleton m c ih =>
    have h1 := ih fun c hc => h c (List.mem_append_left _ hc)
    rw [natOf_snoc, h c (List.mem_append_right _ (List.mem_singleton.2 rfl)), List.length_append, List.length_singleton, Nat.pow_succ, ← h1]
    have : (57 : UInt8).toNat = 57 := rfl
    omega
theorem more_take {l : List UInt8} {k : Nat} (hk : k ≤ l.length) (h : Nines l k) : natOf l + 1 = (natOf (l.take k) + 1) * 10 ^ (l.length - k) := by
  have h1 := natOf_append (l.take k) (l.drop k)
  rw [List.take_append_drop, List.length_drop] at h1
  have h2 := natOf_nines (l := l.drop k) (fun c hc => by
    obtain ⟨i, hi, rfl⟩ := List.mem_iff_getElem.1 hc
    rw [List.getElem_drop]
    rw [List.length_drop] at hi
    exact h _ (by omega) (by omega))
  rw [List.length_drop] at h2
  rw [h1, Nat.succ_mul]; omega
/-- what more comes to. -/
def More (l m : List UInt8) : Prop := (∀ c ∈ m, isDig c) ∧ m ≠ [] ∧ natOf m = natOf l + 1 ∧ (∀ c, l[0]? = some c → c ≠ 48) → m[0]? ≠ some 48
structure MoreOf (l m : List UInt8) : Prop where
  dig : ∀ c ∈ m, isDig c
  ne : m ≠ []
  val : natOf m = natOf l + 1
  first : m[0]? ≠ some 48
  len : m.length ≤ l.length + 1
theorem more_all {l : List UInt8} (hl : l ≠ []) (h : Nines l 0) : MoreOf l (49 :: zerosL l.length) := by
  have h1 := more_take (Nat.zero_le _) h
  refine ⟨fun c hc => ?_, by simp, ?_, by simp, by simp [zeros_len]⟩
  · rcases List.mem_cons.1 hc with rfl | hc
    · unfold isDig; decide
    · rw [zeros_mem hc]; exact isDig48
  · have h2 := natOf_append [49] (zerosL l.length)
    rw [natOf_zeros (l := zerosL l.length) fun c hc => zeros_mem hc, zeros_len] at h2
    rw [show [49] ++ zerosL l.length = 49 :: zerosL l.length from rfl] at h2
    rw [h2, h1]
    simp [natOf]
theorem more_at {l : List UInt8} {k : Nat} {c : UInt8} (hd : ∀ c ∈ l, isDig c) (hf : ∀ c, l[0]? = some c → c ≠ 48) (hk : k < l.length) (h : Nines l (k + 1)) (hc : c.toNat = l[k].toNat + 1) (h9 : l[k] ≠ 57) : MoreOf l (l.take k ++ (c :: zerosL (l.length - (k + 1)))) := by
  have h1 := more_take (k := k + 1) hk h
  have hdk := hd l[k] (List.getElem_mem hk)
  unfold isDig at hdk
  have h9' : l[k].toNat ≠ 57 := fun h => h9 (UInt8.toNat.inj (by show _ = 57; omega))
  have hcd : isDig c := by unfold isDig; omega
  refine ⟨fun x hx => ?_, by simp, ?_, ?_, ?_⟩
  · rcases List.mem_append.1 hx with h | h
    · exact hd x (List.mem_of_mem_take h)
    · rcases List.mem_cons.1 h with rfl | h
      · exact hcd
      · rw [zeros_mem h]; exact isDig48
  · rw [h1]
    have e : l.take k ++ (c :: zerosL (l.length - (k + 1))) = (l.take k ++ [c]) ++ zerosL (l.length - (k + 1)) := by simp
    rw [e, natOf_append, natOf_zeros (l := zerosL _) fun c hc => zeros_mem hc, zeros_len, natOf_snoc, natOf_take_succ hk, hc, Nat.add_zero]
    congr 1
    omega
  · rcases Nat.eq_zero_or_pos k with h0 | h0
    · subst h0
      simp
      intro h
      have : c.toNat = 48 := by rw [h]; rfl
      omega
    · rw [List.getElem?_append_left (by rw [List.length_take]; omega), List.getElem?_take_of_lt h0]
      intro h
      exact hf 48 h rfl
  · simp [zeros_len]; omega
theorem more_walk {B : Nat} (l : List UInt8) (w : World) (hB : B ≤ w.heap.size) (hd : ∀ c ∈ l, isDig c) (hne : l ≠ []) (hf : ∀ c, l[0]? = some c → c ≠ 48) (hlen : l.length ≤ 1000) :
    Calls Tryz.prog 34 #[.string (strL l)] w fun e w' => ∃ m, e = .returned (.string (strL m)) ∧ MoreOf l m ∧ Below B w w' := by
  obtain ⟨w1, hw1⟩ : ∃ w1, w1 = Lib.bytesWorld w 5 (strL l) := ⟨_, rfl⟩
  obtain ⟨cap, hcap⟩ : ∃ cap, cap = grownCap w (strL l).size 0 5 := ⟨_, rfl⟩
  have hcv : (convert 9 43 (.string (strL l))).run Tryz.prog w = .ok (.slice (some ⟨w.heap.size, 0, none⟩) (strL l).size cap) w1 := by
    rw [Lib.run_convert_string_bytes w 9 43 5 (strL l) Tryz.underlying9 Tryz.underlying43 Tryz.underlying5, hw1, hcap]
  have hrow : RowB w1 w.heap.size l := by rw [hw1]; exact rowB_of w l
  have hbel : Below B w w1 := by rw [hw1]; exact (Lib.bytesWorld_below w 5 (strL l)).mono hB
  obtain ⟨g, hg⟩ : ∃ g, g = w.heap.size := ⟨_, rfl⟩
  have hBg : B ≤ g := by rw [hg]; exact hB
  have hsz : (strL l).size = l.length := strL_size l
  obtain ⟨n, hn⟩ : ∃ n, n = l.length := ⟨_, rfl⟩
  rw [← hg] at hcv hrow
  rw [hsz, ← hn] at hcv
  have hn1 : 1 ≤ n := by rw [hn]; exact List.length_pos_iff.2 hne
  rw [← hn] at hlen
  have HR := Lib.hid (And.intro hrow (And.intro hbel (And.intro hn (And.intro hd (And.intro hf hne)))))
  clear hw1 hcap hrow hbel hg hn hd hf hne hsz
  go_enter Tryz.func34, Tryz.ntmps34
  go_wp2_with fail
  go_loopg [4] (n + 1) (fun gk s4 wr => ∃ (k : Nat) (ii : Int), gk = k + 1 ∧ s4 = .int .i64 ii ∧ k ≤ n ∧ ii = k - 1 ∧ Hid (Nines l k ∧ RowB wr g (l.take k ++ zerosL (n - k)) ∧ Below B w wr))
  case atStart =>
    refine ⟨n, _, rfl, rfl, Nat.le_refl _, rfl, Lib.hid ⟨fun j h1 h2 => absurd h1 (by have := HR.out.2.2.1; omega), ?_, HR.out.2.1⟩⟩
    rw [Nat.sub_self, List.take_of_length_le (by have := HR.out.2.2.1; omega), show zerosL 0 = [] from rfl, List.append_nil]
    exact HR.out.1
  case round =>
    obtain ⟨k, ii, hgk, rfl, hk, hii, hH⟩ := hrel
    obtain ⟨hnn, hrow, hbel⟩ := hH.out
    have hnl := HR.out.2.2.1
    have hrl : (l.take k ++ zerosL (n - k)).length = n := by rw [List.length_append, List.length_take, zeros_len]; omega
    cases k with
    | zero =>
      have hi0 : ii = -1 := by omega
      subst hi0
      have hcv2 := hrow.conv (cap := cap)
      rw [hrl] at hcv2
      have e0 : l.take 0 ++ zerosL (n - 0) = zerosL n := by simp
      rw [e0] at hcv2
      have hzs : (strL (zerosL n)).size ≤ 1000 := by rw [strL_size, zeros_len]; exact hlen
      have HX : Hid (MoreOf l (49 :: zerosL n)) := by
        rw [hnl]; exact Lib.hid (more_all HR.out.2.2.2.2.2 hnn)
      have HB := Lib.hid hbel
      clear hnn hrow hbel hnl hrl hH hii e0
      go_wp2_with fail
      go_ret
      refine ⟨49 :: zerosL n, ?_, HX.out, HB.out⟩
      show Ending.returned (.string (strL [49] ++ strL (zerosL n))) = _
      rw [strL_app]; rfl
    | succ k =>
      have hik : ii = (k : Int) := by omega
      subst hik
      have hkl : k < l.length := by omega
      have HG : Hid (gk = k + 1 + 1) := Lib.hid hgk
      clear hii hgk
      have hgk2 : (l.take (k + 1) ++ zerosL (n - (k + 1)))[k]? = some l[k] := by
        rw [List.getElem?_append_left (by rw [List.length_take]; omega), List.getElem?_take_of_lt (by omega), List.getElem?_eq_getElem hkl]
      have hkr : k < (l.take (k + 1) ++ zerosL (n - (k + 1))).length := by omega
      have hcell := hrow.1 k hkr
      rw [List.getElem?_eq_getElem hkr] at hgk2
      rw [Option.some.inj hgk2] at hcell
      have hfr := hrow.2 k hkr
      have hdk := HR.out.2.2.2.1 l[k] (List.getElem_mem hkl)
      unfold isDig at hdk
      obtain ⟨c, hc⟩ : ∃ c, c = l[k] := ⟨_, rfl⟩
      rw [← hc] at hcell hdk
      have hset : ∀ x : UInt8, (l.take (k + 1) ++ zerosL (n - (k + 1))).set k x = l.take k ++ (x :: zerosL (n - (k + 1))) := by
        intro x
        rw [take_succ_at hkl, List.append_assoc, List.set_append_right _ _ (by rw [List.length_take]; omega), List.length_take, show k - min k l.length = 0 by omega]
        rfl
      have HX := Lib.hid (And.intro hnn (And.intro hrow (And.intro hbel (And.intro hc (And.intro hset hkr)))))
      by_cases h9 : c = 57
      · have hc57 : (c.toNat : Int) = 57 := by rw [h9]; rfl
        rw [hc57] at hcell
        have HN : Hid (Nines l k) := by
          refine Lib.hid fun j h1 h2 => ?_
          rcases Nat.lt_or_ge k j with h3 | h3
          · exact hnn j h1 h3
          · have : j = k := by omega
            subst this
            rw [← hc, h9]
        clear hnn hrow hbel hc hset hkr hrl hH hgk2 hdk hc57 h9 hnl
        go_wp2_with fail
        go_roundg (k + 1)
        case measure => have := HG.out; omega
        case rel =>
          refine ⟨k, (k : Int) - 1, rfl, rfl, by omega, rfl, Lib.hid ⟨HN.out, ?_, HX.out.2.2.1.setCell hBg _⟩⟩
          have h1 := HX.out.2.1.set HX.out.2.2.2.2.2 48
          rw [HX.out.2.2.2.2.1 48] at h1
          have e : l.take k ++ (48 :: zerosL (n - (k + 1))) = l.take k ++ zerosL (n - k) := by
            rw [show n - k = n - (k + 1) + 1 by omega]; rfl
          rw [e] at h1
          exact h1
      · have b57 : ((c.toNat : Int) == 57) = false := by
          rw [beq_eq_false_iff_ne]; intro h; exact h9 (UInt8.toNat.inj (by show _ = 57; omega))
        obtain ⟨c2, hc2⟩ : ∃ c2 : UInt8, c2.toNat = c.toNat + 1 := ⟨UInt8.ofNat (c.toNat + 1), by simp; omega⟩
        have hci : (c.toNat : Int) + 1 = (c2.toNat : Nat) := by omega
        have hrow2 : RowB (wr.setCell ⟨g, k, none⟩ (.int .u8 (c2.toNat : Nat))) g (l.take k ++ (c2 :: zerosL (n - (k + 1)))) := by
          have := hrow.set hkr c2
          rwa [hset] at this
        have hcv2 := hrow2.conv (cap := cap)
        have hl2 : (l.take k ++ (c2 :: zerosL (n - (k + 1)))).length = n := by
          rw [List.length_append, List.length_take, List.length_cons, zeros_len]; omega
        rw [hl2] at hcv2
        have HM : Hid (MoreOf l (l.take k ++ (c2 :: zerosL (n - (k + 1))))) := by
          have := more_at (c := c2) HR.out.2.2.2.1 HR.out.2.2.2.2.1 hkl hnn (by rw [hc2, hc]) (by rw [← hc]; exact h9)
          rw [hnl]
          exact Lib.hid this
        have hkn : k < n := by omega
        clear hnn hrow hbel hc hset hkr hrl hH hgk2 hc2 h9 hnl hrow2 hl2
        go_wp2_with fail
        go_ret
        exact ⟨_, rfl, HM.out, HX.out.2.2.1.setCell hBg _⟩
end Go.Proofs.YtdfodfflkmcgpaaGreatDoor
/- What parts makes of a shown number; how many digits are shown; digits with a power of ten as a number's text. Of lists and numbers, but for the contract's last line. -/
namespace Go.Proofs.YtdfodfflkmcgpaaGreatDoor
open Go.RowKit Go.Sort Near Parse
set_option linter.unusedVariables false
set_option maxHeartbeats 1600000
set_option maxRecDepth 100000
theorem pstep_dig {d : List UInt8} {x : Int} {p : Bool} {c : UInt8} (hd : d ≠ []) (hc : isDig c) : pstep (d, x, p) c = (d ++ [c], if p then x else x + 1, p) := by
  unfold pstep
  rw [if_neg (dig_ne hc (.inl (by decide))), if_neg (fun h => hd h.1)]
theorem fold_digs {E d : List UInt8} {x : Int} {p : Bool} (hd : d ≠ []) (hE : ∀ c ∈ E, isDig c) : E.foldl pstep (d, x, p) = (d ++ E, if p then x else x + E.length, p) := by
  induction E generalizing d x with
  | nil => simp
  | cons c E ih =>
    rw [List.foldl_cons, pstep_dig hd (hE c List.mem_cons_self), ih (by simp) (fun c hc => hE c (List.mem_cons_of_mem _ hc))]
    cases p
    · simp; omega
    · simp
theorem fold_front {D : List UInt8} {x : Int} {p : Bool} (hne : D ≠ []) (hd : ∀ c ∈ D, isDig c) (hf : ∀ c, D[0]? = some c → c ≠ 48) : D.foldl pstep ([], x, p) = (D, if p then x else x + D.length, p) := by
  obtain ⟨a, r, rfl⟩ : ∃ a r, D = a :: r := by
    cases D with
    | nil => exact absurd rfl hne
    | cons a r => exact ⟨a, r, rfl⟩
  have ha := hf a rfl
  have e : pstep ([], x, p) a = ([a], if p then x else x + 1, p) := by
    unfold pstep
    rw [if_neg (dig_ne (hd a List.mem_cons_self) (.inl (by decide))), if_neg (fun h => ha h.2)]
    rfl
  rw [List.foldl_cons, e, fold_digs (by simp) (fun c hc => hd c (List.mem_cons_of_mem _ hc))]
  cases p
  · simp; omega
  · simp
theorem fold_zeros (n : Nat) {x : Int} : (zerosL n).foldl pstep ([], x, true) = ([], x - n, true) := by
  induction n generalizing x with
  | zero => simp [show zerosL 0 = [] from rfl]
  | succ n ih =>
    show (zerosL n).foldl pstep (pstep ([], x, true) 48) = _
    have e : pstep ([], x, true) 48 = ([], x - 1, true) := by unfold pstep; simp
    rw [e, ih]
    simp; omega
theorem natOf_dec (u : Nat) : natOf (Lib.decDigits u) = u := (dec_all u).2.1
theorem parts_laid {t L R : Nat} {D : List UInt8} {x : Int} (H : Shown t L R D x) (w : World) :
    Calls Tryz.prog 32 #[.string (strL (laidL D x))] w fun e w' => e = .returned (.tuple #[.string (strL D), .int .i64 x]) ∧ w' = w := by
  have hne := H.ne
  have hd := H.dig
  have hf := H.first
  have hl19 := H.len
  have hl1 : 1 ≤ D.length := List.length_pos_iff.2 hne
  have hlo := H.lo
  have hhi := H.hi
  have nd101 : ∀ c, isDig c → c ≠ 101 := fun c hc => dig_ne hc (.inr (by decide))
  unfold laidL
  by_cases h1 : (D.length : Int) - 1 ≤ x ∧ x ≤ 20
  · rw [if_pos h1]
    have := parts_walk (B := 0) (D ++ zerosL (x - D.length + 1).toNat) false 0 [] D x false (x - D.length + 1).toNat w (fun c hc => ?_) ?_ (by decide) (fun c hc => by cases hc) (fun h => by cases h) ?_ hne H.last
    · rw [show (if false = true then (if (0 : UInt8) = 45 then -(natOf [] : Int) else natOf []) else 0) = 0 from rfl, Int.add_zero, show tailOf false 0 [] = [] from rfl, List.append_nil] at this
      exact this
    · rcases List.mem_append.1 hc with h | h
      · exact nd101 c (hd c h)
      · rw [zeros_mem h]; decide
    · rw [List.length_append, zeros_len]; omega
    · unfold pfold
      rw [List.foldl_append, fold_front hne hd hf, fold_digs hne (fun c hc => by rw [zeros_mem hc]; exact isDig48), zeros_len]
      simp; omega
  rw [if_neg h1]
  by_cases h2 : 0 ≤ x ∧ x ≤ 20
  · rw [if_pos h2]
    obtain ⟨n, hn⟩ : ∃ n : Nat, x = n := ⟨x.toNat, by omega⟩
    subst hn
    have hnl : n + 1 < D.length := by omega
    have e1 : ((n : Int) + 1).toNat = n + 1 := by omega
    rw [e1]
    have hne2 : D.take (n + 1) ≠ [] := by
      intro h
      have := congrArg List.length h
      rw [List.length_take, List.length_nil] at this
      omega
    have := parts_walk (B := 0) (D.take (n + 1) ++ [46] ++ D.drop (n + 1)) false 0 [] D n true 0 w (fun c hc => ?_) ?_ (by decide) (fun c hc => by cases hc) (fun h => by cases h) ?_ hne H.last
    · rw [show (if false = true then (if (0 : UInt8) = 45 then -(natOf [] : Int) else natOf []) else 0) = 0 from rfl, Int.add_zero, show tailOf false 0 [] = [] from rfl, List.append_nil] at this
      exact this
    · rcases List.mem_append.1 hc with h | h
      · rcases List.mem_append.1 h with h | h
        · exact nd101 c (hd c (List.mem_of_mem_take h))
        · rw [List.mem_singleton.1 h]; decide
      · exact nd101 c (hd c (List.mem_of_mem_drop h))
    · simp; omega
    · unfold pfold
      rw [List.foldl_append, List.foldl_append, fold_front hne2 (fun c hc => hd c (List.mem_of_mem_take hc)) (fun c hc => by rw [List.getElem?_take_of_lt (by omega)] at hc; exact hf c hc)]
      have e2 : pstep (D.take (n + 1), if false = true then (-1 : Int) else -1 + (D.take (n + 1)).length, false) 46 = (D.take (n + 1), (n : Int), true) := by
        unfold pstep
        rw [if_pos rfl, List.length_take]
        simp; omega
      rw [List.foldl_cons, List.foldl_nil, e2, fold_digs hne2 (fun c hc => hd c (List.mem_of_mem_drop hc)), List.take_append_drop]
      simp [show zerosL 0 = [] from rfl]
  rw [if_neg h2]
  by_cases h3 : x < 0 ∧ -6 ≤ x
  · rw [if_pos h3]
    obtain ⟨z, hz⟩ : ∃ z : Nat, z = (-x - 1).toNat := ⟨_, rfl⟩
    rw [← hz]
    have := parts_walk (B := 0) ([48, 46] ++ zerosL z ++ D) false 0 [] D x true 0 w (fun c hc => ?_) ?_ (by decide) (fun c hc => by cases hc) (fun h => by cases h) ?_ hne H.last
    · rw [show (if false = true then (if (0 : UInt8) = 45 then -(natOf [] : Int) else natOf []) else 0) = 0 from rfl, Int.add_zero, show tailOf false 0 [] = [] from rfl, List.append_nil] at this
      exact this
    · rcases List.mem_append.1 hc with h | h
      · rcases List.mem_append.1 h with h | h
        · simp at h
          rcases h with rfl | rfl <;> decide
        · rw [zeros_mem h]; decide
      · exact nd101 c (hd c h)
    · simp [zeros_len]; omega
    · unfold pfold
      rw [List.foldl_append, List.foldl_append]
      have e2 : List.foldl pstep (([] : List UInt8), (-1 : Int), false) [48, 46] = ([], -1, true) := by decide
      rw [e2, fold_zeros, fold_front hne hd hf]
      simp [show zerosL 0 = [] from rfl]; omega
  rw [if_neg h3]
  obtain ⟨y1, y2, y3⟩ := dec_all x.natAbs
  have hE5 : (Lib.decDigits x.natAbs).length ≤ 5 := by
    rw [Lib.decDigits_length]
    exact ndig_le 5 _ (by omega) (by omega)
  obtain ⟨sg, hsg⟩ : ∃ sg : UInt8, sg = if x < 0 then 45 else 43 := ⟨_, rfl⟩
  have htail : ([101] ++ if x < 0 then [45] ++ Lib.itoa (-x) else [43] ++ Lib.itoa x) = tailOf true sg (Lib.decDigits x.natAbs) := by
    unfold tailOf Lib.itoa
    rw [hsg]
    by_cases hx : x < 0
    · rw [if_pos hx, if_pos hx, if_neg (by omega), if_pos rfl, show (-x).toNat = x.natAbs by omega]; rfl
    · rw [if_neg hx, if_neg hx, if_neg hx, if_pos rfl, show x.toNat = x.natAbs by omega]; rfl
  rw [List.append_assoc, htail]
  have hval : (0 : Int) + (if true = true then (if sg = 45 then -(natOf (Lib.decDigits x.natAbs) : Int) else natOf (Lib.decDigits x.natAbs)) else 0) = x := by
    rw [if_pos rfl, y2, hsg]
    by_cases hx : x < 0
    · rw [if_pos hx, if_pos rfl]; omega
    · rw [if_neg hx, if_neg (by decide)]; omega
  by_cases hl : 1 < D.length
  · rw [if_pos hl]
    have hne2 : D.take 1 ≠ [] := by
      intro h
      have := congrArg List.length h
      rw [List.length_take, List.length_nil] at this
      omega
    have := parts_walk (B := 0) (D.take 1 ++ [46] ++ D.drop 1) true sg (Lib.decDigits x.natAbs) D 0 true 0 w (fun c hc => ?_) ?_ hE5 y1 (fun _ => List.length_pos_iff.2 y3) ?_ hne H.last
    · rw [hval] at this
      exact this
    · rcases List.mem_append.1 hc with h | h
      · rcases List.mem_append.1 h with h | h
        · exact nd101 c (hd c (List.mem_of_mem_take h))
        · rw [List.mem_singleton.1 h]; decide
      · exact nd101 c (hd c (List.mem_of_mem_drop h))
    · simp; omega
    · unfold pfold
      rw [List.foldl_append, List.foldl_append, fold_front hne2 (fun c hc => hd c (List.mem_of_mem_take hc)) (fun c hc => by rw [List.getElem?_take_of_lt (by omega)] at hc; exact hf c hc)]
      have e2 : pstep (D.take 1, if false = true then (-1 : Int) else -1 + (D.take 1).length, false) 46 = (D.take 1, (0 : Int), true) := by
        unfold pstep
        rw [if_pos rfl, List.length_take]
        simp; omega
      rw [List.foldl_cons, List.foldl_nil, e2, fold_digs hne2 (fun c hc => hd c (List.mem_of_mem_drop hc)), List.take_append_drop]
      simp [show zerosL 0 = [] from rfl]
  · rw [if_neg hl]
    have := parts_walk (B := 0) D true sg (Lib.decDigits x.natAbs) D 0 false 0 w (fun c hc => nd101 c (hd c hc)) (by omega) hE5 y1 (fun _ => List.length_pos_iff.2 y3) ?_ hne H.last
    · rw [hval] at this
      exact this
    · unfold pfold
      rw [fold_front hne hd hf]
      simp [show zerosL 0 = [] from rfl]; omega
/-- digits, 'e', a number: a number's text. -/
def expL (D : List UInt8) (y : Int) : List UInt8 := D ++ [101] ++ Lib.itoa y
theorem expL_num {D : List UInt8} (y : Int) (hne : D ≠ []) (hd : ∀ c ∈ D, isDig c) : NumText (expL D y) false D [] false true 101 (Lib.itoa y) (decide (y < 0)) (Lib.decDigits y.natAbs) := by
  obtain ⟨y1, y2, y3⟩ := dec_all y.natAbs
  refine ⟨?_, hd, fun c h => (by cases h), hne, fun _ => rfl, fun h => (by cases h), fun _ => .inl rfl, fun _ => ⟨?_, y1, y3⟩, fun h => (by cases h)⟩
  · unfold expL ptText; simp
  · unfold Lib.itoa
    by_cases hy : y < 0
    · left
      refine ⟨decide_eq_true hy, ?_⟩
      rw [if_pos hy]
    · right; right
      refine ⟨decide_eq_false hy, ?_⟩
      rw [if_neg hy, show y.toNat = y.natAbs by omega]
theorem expL_val {D : List UInt8} {y : Int} (hy : y.natAbs < 1000000) : valN D [] = natOf D ∧ valP [] true (decide (y < 0)) (Lib.decDigits y.natAbs) = y := by
  obtain ⟨y1, y2, y3⟩ := dec_all y.natAbs
  refine ⟨by unfold valN; rw [List.append_nil], ?_⟩
  unfold valP expCap expInt
  rw [if_pos rfl, y2]
  by_cases h : y < 0
  · rw [if_pos (decide_eq_true h)]; simp; omega
  · rw [if_neg (by rw [decide_eq_false h]; simp)]; simp; omega
end Go.Proofs.YtdfodfflkmcgpaaGreatDoor
/- NumsShort, walked over what is shown and read. -/
namespace Go.Proofs.YtdfodfflkmcgpaaGreatDoor
open Go.RowKit Go.Sort Near Parse
set_option linter.unusedVariables false
set_option maxHeartbeats 3200000
set_option maxRecDepth 100000
/-- a reading of another number. -/
def Other (v : Int) (e : Ending) : Prop := ∃ y z : Int, e = .returned (.tuple #[.int .u64 y, .int .i64 z]) ∧ y ≠ v
/-- nothing to look at: nought, a NaN, an infinity. -/
theorem short_triv {B : Nat} (wide : Bool) (bits k v : Int) (s : ByteArray) (w : World) (hG : Rich B w) (hB : B ≤ w.heap.size) (h0 : 0 ≤ bits) (h1 : bits < 18446744073709551616)
   (hk : k = if wide then 1 else 2) (hv : v = if wide then bits % 9223372036854775808 else bits % 9223372036854775808 % 2147483648)
   (HS : ∀ wx, Below B w wx → Calls Tryz.prog 18 #[.int .u8 k, .int .u64 v] wx fun e w' => e = .returned (.string s) ∧ Below B w w')
   (hc : v = 0 ∨ nanN k v = true ∨ s = ⟨#[73, 110, 102, 105, 110, 105, 116, 121]⟩) :
    Calls Tryz.prog 7 #[.bool wide, .int .u64 bits] w fun e w' => e = .returned (.bool true) ∧ Below B w w' := by
  have hvb : 0 ≤ v ∧ v < 18446744073709551616 := by rw [hv]; split <;> omega
  have hnan := fun w => nan_any k v w hvb.1 hvb.2
  obtain ⟨nn, hnn⟩ : ∃ nn, nn = nanN k v := ⟨_, rfl⟩
  rw [← hnn] at hnan hc
  have HN := Lib.hid hnan
  have H := Lib.hid HS
  have HV := Lib.hid (And.intro hk hv)
  clear hnan HS hk hv hnn
  go_enter Tryz.func7, Tryz.ntmps7
  go_wp2_with fail
  refine (works_any _ hG.toGood hB).mono ?_
  rintro e w1 ⟨rfl, hb1⟩
  go_upto_if 22 with fail
  go_cut [1, 6, 22] (fun s1 s6 s22 wx => wx = w1 ∧ s1 = .int .u64 v ∧ s6 = .int .u8 k)
  case first =>
    obtain ⟨ek, ev⟩ := HV.out
    cases wide
    · have ek2 : k = 2 := ek
      have ev2 : v = bits % 9223372036854775808 % 2147483648 := ev
      have HE := Lib.hid (And.intro ek2 ev2)
      clear ek ev ek2 ev2
      go_wp2_with fail
      go_meet
      case rel => exact ⟨rfl, by rw [HE.out.2], by rw [HE.out.1]⟩
    · have ek2 : k = 1 := ek
      have ev2 : v = bits % 9223372036854775808 := ev
      have HE := Lib.hid (And.intro ek2 ev2)
      clear ek ev ek2 ev2
      go_wp2_with fail
      go_meet
      case rel => exact ⟨rfl, by rw [HE.out.2], by rw [HE.out.1]⟩
  case rest =>
  obtain ⟨hw, rfl, rfl⟩ := hcut
  subst hw
  go_wp2_with fail
  refine (HN.out _).mono ?_
  rintro e w2 ⟨rfl, hw⟩
  subst hw
  go_wp2_with fail
  refine (H.out _ hb1).mono ?_
  rintro e w3 ⟨rfl, hb3⟩
  rcases hc with rfl | rfl | rfl
  · go_wp2_with fail
    all_goals (go_ret; exact ⟨rfl, hb3⟩)
  · go_wp2_with fail
    all_goals (go_ret; exact ⟨rfl, hb3⟩)
  · go_wp2_with fail
    all_goals (go_ret; exact ⟨rfl, hb3⟩)
theorem short_core {B : Nat} (wide : Bool) (bits k v : Int) (l D : List UInt8) (x : Int) (w : World) (hG : Rich B w) (hB : B ≤ w.heap.size) (h0 : 0 ≤ bits) (h1 : bits < 18446744073709551616)
   (hk : k = if wide then 1 else 2) (hv : v = if wide then bits % 9223372036854775808 else bits % 9223372036854775808 % 2147483648)
   (HS : ∀ wx, Below B w wx → Calls Tryz.prog 18 #[.int .u8 k, .int .u64 v] wx fun e w' => e = .returned (.string (strL l)) ∧ Below B w w')
   (hv0 : v ≠ 0) (hnn : nanN k v = false) (hinf : ((strL l).toList == [73, 110, 102, 105, 110, 105, 116, 121]) = false)
   (HP : ∀ wx, Calls Tryz.prog 32 #[.string (strL l)] wx fun e w' => e = .returned (.tuple #[.string (strL D), .int .i64 x]) ∧ w' = wx)
   (hD1 : 1 ≤ D.length) (hD17 : D.length ≤ 17) (hx0 : -400 ≤ x) (hx1 : x ≤ 400) (hdig : ∀ c ∈ D, isDig c) (hfirst : ∀ c, D[0]? = some c → c ≠ 48)
   (HR1 : ∀ wx, Below B w wx → Calls Tryz.prog 28 #[.int .u8 k, .string (strL (expL D (x - D.length + 1)))] wx fun e w' => e = .returned (.tuple #[.int .u64 v, .int .i64 0]) ∧ Below B w w')
   (HR2 : 2 ≤ D.length → ∀ wx, Below B w wx → Calls Tryz.prog 28 #[.int .u8 k, .string (strL (expL (D.take (D.length - 1)) (x - D.length + 2)))] wx fun e w' => Other v e ∧ Below B w w')
   (HR3 : 2 ≤ D.length → ∀ m, MoreOf (D.take (D.length - 1)) m → ∀ wx, Below B w wx → Calls Tryz.prog 28 #[.int .u8 k, .string (strL (expL m (x - D.length + 2)))] wx fun e w' => Other v e ∧ Below B w w') :
    Calls Tryz.prog 7 #[.bool wide, .int .u64 bits] w fun e w' => e = .returned (.bool true) ∧ Below B w w' := by
  have hvb : 0 ≤ v ∧ v < 18446744073709551616 := by rw [hv]; split <;> omega
  have hnan := fun w => nan_any k v w hvb.1 hvb.2
  rw [hnn] at hnan
  have HN := Lib.hid hnan
  have H := Lib.hid HS
  have HV := Lib.hid (And.intro hk hv)
  have HPP := Lib.hid HP
  have H1 := Lib.hid HR1
  have H2 := Lib.hid HR2
  have H3 := Lib.hid HR3
  obtain ⟨n, hn⟩ : ∃ n, n = D.length := ⟨_, rfl⟩
  have hDs : (strL D).size = n := by rw [strL_size, hn]
  have HX := Lib.hid (And.intro hn (And.intro hdig hfirst))
  rw [← hn] at hD1 hD17
  have b0 : (v == 0) = false := by rw [beq_eq_false_iff_ne]; exact hv0
  have bvv : (v == v) = true := by simp
  clear hnan HS hk hv hnn HP HR1 HR2 HR3 hn hdig hfirst hv0
  go_enter Tryz.func7, Tryz.ntmps7
  go_wp2_with fail
  refine (works_any _ hG.toGood hB).mono ?_
  rintro e w1 ⟨rfl, hb1⟩
  go_upto_if 22 with fail
  go_cut [1, 6, 22] (fun s1 s6 s22 wx => wx = w1 ∧ s1 = .int .u64 v ∧ s6 = .int .u8 k)
  case first =>
    obtain ⟨ek, ev⟩ := HV.out
    cases wide
    · have ek2 : k = 2 := ek
      have ev2 : v = bits % 9223372036854775808 % 2147483648 := ev
      have HE := Lib.hid (And.intro ek2 ev2)
      clear ek ev ek2 ev2
      go_wp2_with fail
      go_meet
      case rel => exact ⟨rfl, by rw [HE.out.2], by rw [HE.out.1]⟩
    · have ek2 : k = 1 := ek
      have ev2 : v = bits % 9223372036854775808 := ev
      have HE := Lib.hid (And.intro ek2 ev2)
      clear ek ev ek2 ev2
      go_wp2_with fail
      go_meet
      case rel => exact ⟨rfl, by rw [HE.out.2], by rw [HE.out.1]⟩
  case rest =>
  obtain ⟨hw, rfl, rfl⟩ := hcut
  subst hw
  go_wp2_with fail
  refine (HN.out _).mono ?_
  rintro e w2 ⟨rfl, hw⟩
  subst hw
  go_wp2_with fail
  refine (H.out _ hb1).mono ?_
  rintro e w3 ⟨rfl, hb3⟩
  go_wp2_with fail
  refine (HPP.out _).mono ?_
  rintro e w4 ⟨rfl, hw⟩
  subst hw
  obtain ⟨y1, hy1⟩ : ∃ y1 : Int, y1 = x - n + 1 := ⟨_, rfl⟩
  obtain ⟨y2, hy2⟩ : ∃ y2 : Int, y2 = x - n + 2 := ⟨_, rfl⟩
  have i1 : x - (n : Int) + 1 = y1 := hy1.symm
  have i2 : x - (n : Int) + 2 = y2 := hy2.symm
  have hyb1 : -1000 ≤ y1 ∧ y1 ≤ 1000 := by omega
  have hyb2 : -1000 ≤ y2 ∧ y2 ≤ 1000 := by omega
  have HY := Lib.hid (And.intro hy1 hy2)
  have hit : ∀ y : Int, -1000 ≤ y ∧ y ≤ 1000 → (strL (Lib.itoa y)).size ≤ 30 := by
    intro y hy
    rw [strL_size, intL_itoa]
    have := intL_len (neg := decide (y < 0)) (N := y.natAbs) (by omega)
    omega
  have hi1 := hit y1 hyb1
  have hi2 := hit y2 hyb2
  have hesz : (strL [101]).size = 1 := rfl
  have ee : (⟨#[101]⟩ : ByteArray) = strL [101] := rfl
  clear hy1 hy2 hit
  go_wp2_with fail
  refine (dnum_any (B := B) y1 _ (Nat.le_trans hB hb3.size) (by omega) (by omega)).mono ?_
  rintro e w5 ⟨rfl, hb5⟩
  have hb5 := hb3.trans hb5
  have hap1 : (strL D ++ strL [101]).size = n + 1 := by
    rw [ByteArray.size_append, hDs]; rfl
  go_wp2_with fail
  have hE1 : strL D ++ strL [101] ++ strL (Lib.itoa y1) = strL (expL D y1) := by
    rw [strL_app, strL_app]; rfl
  rw [hE1]
  have hr1 := H1.out _ hb5
  rw [← HX.out.1, i1] at hr1
  refine hr1.mono ?_
  rintro e w6 ⟨rfl, hb6⟩
  clear hr1 hE1
  rcases Nat.lt_or_ge 1 n with hn2 | hn1
  · obtain ⟨m, rfl⟩ : ∃ m, n = m + 1 := ⟨n - 1, by omega⟩
    obtain ⟨D2, hD2⟩ : ∃ D2, D2 = D.take m := ⟨_, rfl⟩
    have hD2l : D2.length = m := by rw [hD2, List.length_take]; have := HX.out.1; omega
    have hsl : ∀ W, (Instr.slice 9 (.string (strL D)) none (some (.int .i64 (m : Int))) none).run Tryz.prog W = .ok (.string (strL D2)) W := by
      intro W
      have h9 := run_slice_string_to_if (P := Tryz.prog) (w := W) 9 (strL D) .i64 (m : Int) Tryz.underlying9
      rw [if_pos (by omega), Int.toNat_natCast, strL_to, ← hD2] at h9
      exact h9
    have i2' : x - ((m : Int) + 1) + 2 = y2 := by omega
    have hD2s : (strL D2).size = m := by rw [strL_size, hD2l]
    have hap2 : (strL D2 ++ strL [101]).size = m + 1 := by rw [ByteArray.size_append, hD2s]; rfl
    have hm1 : 1 ≤ m := by omega
    have hm17 : m ≤ 16 := by omega
    have hdg : ∀ wx, Below B w wx → Calls Tryz.prog 33 #[.int .i64 y2] wx fun e w' => e = .returned (.string (strL (Lib.itoa y2))) ∧ Below B w w' := fun wx hb =>
      (dnum_any (B := B) y2 wx (Nat.le_trans hB hb.size) (by omega) (by omega)).mono fun e w' ⟨he, hb2⟩ => ⟨he, hb.trans hb2⟩
    have hr2 : ∀ wx, Below B w wx → Calls Tryz.prog 28 #[.int .u8 k, .string (strL D2 ++ strL [101] ++ strL (Lib.itoa y2))] wx fun e w' => Other v e ∧ Below B w w' := by
      intro wx hb
      have := H2.out (by rw [← HX.out.1]; omega) wx hb
      rw [← HX.out.1, i2, show m + 1 - 1 = m by omega, ← hD2] at this
      rw [strL_app, strL_app]
      exact this
    have hmo : ∀ wx, Below B w wx → Calls Tryz.prog 34 #[.string (strL D2)] wx fun e w' => (∃ q, e = .returned (.string (strL q)) ∧ MoreOf D2 q) ∧ Below B w w' := fun wx hb => by
      have := more_walk (B := B) D2 wx (Nat.le_trans hB hb.size) (fun c hc => HX.out.2.1 c (by rw [hD2] at hc; exact List.mem_of_mem_take hc)) (by intro h; rw [h] at hD2l; simp at hD2l; omega) (fun c hc => HX.out.2.2 c (by rw [hD2, List.getElem?_take_of_lt (by omega)] at hc; exact hc)) (by omega)
      exact this.mono fun e w' ⟨q, he, hq, hb2⟩ => ⟨⟨q, he, hq⟩, hb.trans hb2⟩
    have hr3 : ∀ q, MoreOf D2 q → ∀ wx, Below B w wx → Calls Tryz.prog 28 #[.int .u8 k, .string (strL q ++ strL [101] ++ strL (Lib.itoa y2))] wx fun e w' => Other v e ∧ Below B w w' := by
      intro q hq wx hb
      have := H3.out (by rw [← HX.out.1]; omega) q (by rw [← HX.out.1, show m + 1 - 1 = m by omega, ← hD2]; exact hq) wx hb
      rw [← HX.out.1, i2] at this
      rw [strL_app, strL_app]
      exact this
    obtain ⟨y0, hy0⟩ : ∃ y0 : Int, y0 = x - ((m : Int) + 1) := ⟨_, rfl⟩
    have r1 : x - ((m : Int) + 1) = y0 := hy0.symm
    have r2 : y0 + 2 = y2 := by omega
    have hmm : ((m : Int) + 1 - 1) = m := by omega
    have wm : IntKind.i64.wrap (m : Int) = m := by
      have := IntKind.wrap_i64 (m : Int)
      omega
    have w0 : IntKind.i64.wrap y0 = y0 := by
      have := IntKind.wrap_i64 y0
      omega
    have w2 : IntKind.i64.wrap y2 = y2 := by
      have := IntKind.wrap_i64 y2
      omega
    clear hy0 i2'
    have HDG := Lib.hid hdg
    have HR2 := Lib.hid hr2
    have HMO := Lib.hid hmo
    have HR3 := Lib.hid hr3
    have HD2 := Lib.hid hD2l
    clear hdg hr2 hmo hr3 hD2 hD2l i2 i1
    go_wp2_with fail
    go_region_with (first
      | (go_at_call 33; refine (HDG.out _ (by first | exact hb6 | exact hb6.drew | exact below_drewN hb6 _)).mono ?_; rintro e' w7 ⟨rfl, hb7⟩)
      | (go_at_call 28; refine (HR2.out _ (by first | exact hb7 | exact hb7.drew | exact below_drewN hb7 _)).mono ?_; rintro e' w8 ⟨⟨z1, z2, rfl, hz1⟩, hb8⟩))
    all_goals
      have z1v : (z1 == v) = false := by rw [beq_eq_false_iff_ne]; exact hz1
      go_wp2_with fail
      refine (HMO.out _ (by first | exact hb8 | exact hb8.drew | exact below_drewN hb8 _)).mono ?_
      rintro e w9 ⟨⟨q, rfl, hq⟩, hb9⟩
      have hqs : (strL q).size ≤ 20 := by
        rw [strL_size]
        have := hq.len
        have := HD2.out
        omega
      have hap3 : (strL q ++ strL [101]).size ≤ 21 := by
        rw [ByteArray.size_append]
        have : (strL [101]).size = 1 := rfl
        omega
      go_wp2_with fail
      refine (HDG.out _ hb9).mono ?_
      rintro e w10 ⟨rfl, hb10⟩
      go_wp2_with fail
      refine (HR3.out q hq _ hb10).mono ?_
      rintro e w11 ⟨⟨z3, z4, rfl, hz3⟩, hb11⟩
      have z3v : (z3 == v) = false := by rw [beq_eq_false_iff_ne]; exact hz3
      have hzz : (z1 != v && z3 != v) = true := by simp [bne, z1v, z3v]
      have HZ := Lib.hid hzz
      clear hzz
      go_wp2_with fail
      go_ret
      refine ⟨?_, hb11⟩
      show Ending.returned (.bool (z1 != v && z3 != v)) = _
      rw [HZ.out]
  · have hn1 : n = 1 := by omega
    subst hn1
    go_wp2_with fail
    go_ret
    exact ⟨rfl, hb6⟩
end Go.Proofs.YtdfodfflkmcgpaaGreatDoor
/- NumsShort at every input: it returns true. -/
namespace Go.Proofs.YtdfodfflkmcgpaaGreatDoor
open Go.RowKit Go.Sort Near Parse
set_option linter.unusedVariables false
set_option maxHeartbeats 1600000
set_option maxRecDepth 100000
/-- how wide the stretch is that is read as one rung. -/
theorem gap_ge {h R : Nat} (hh : 2 ≤ h) (hR : R ≠ 0) : mid h R ≤ 2 * h * (val h (R + 1) - val h (R - 1)) := by
  have hh0 : 0 < h := by omega
  rcases Nat.lt_or_ge R h with hlt | hge
  · have e1 := val_succ_lt hlt
    have e2 : val h R = R := val_lt hlt
    have e3 : val h (R - 1) = R - 1 := val_lt (by omega)
    unfold mid
    rw [e1, e2, e3, show R + 1 - (R - 1) = 2 by omega]
    omega
  · obtain ⟨k, j, hj, rfl⟩ := split hh0 hge
    have e1 := val_succ_at (k := k) hj
    have e2 := val_at (k := k) hj
    have hp := Nat.two_pow_pos k
    unfold mid
    rcases Nat.eq_zero_or_pos j with h0 | h0
    · subst h0
      rcases Nat.eq_zero_or_pos k with hk | hk
      · subst hk
        have e3 : val h ((0 + 1) * h + 0 - 1) = h - 1 := by rw [show (0 + 1) * h + 0 - 1 = h - 1 by omega]; exact val_lt (by omega)
        rw [e1, e2, e3]
        have e4 : (h + 0) * 2 ^ 0 + 2 ^ 0 - (h - 1) = 2 := by simp; omega
        rw [e4]
        simp
        omega
      · obtain ⟨m, rfl⟩ : ∃ m, k = m + 1 := ⟨k - 1, by omega⟩
        have e3 : val h ((m + 1 + 1) * h + 0 - 1) = (h + (h - 1)) * 2 ^ m := by
          have : (m + 1 + 1) * h + 0 - 1 = (m + 1) * h + (h - 1) := by rw [Nat.succ_mul (m + 1)]; omega
          rw [this]; exact val_at (by omega)
        rw [e1, e2, e3, Nat.pow_succ]
        have hq := Nat.two_pow_pos m
        obtain ⟨g, hg⟩ : ∃ g, h = g + 1 := ⟨h - 1, by omega⟩
        subst hg
        have e5 : (g + 1 + 0) * (2 ^ m * 2) + 2 ^ m * 2 - (g + 1 + (g + 1 - 1)) * 2 ^ m = 3 * 2 ^ m := by
          have : (g + 1 + 0) * (2 ^ m * 2) + 2 ^ m * 2 = (g + 1 + (g + 1 - 1)) * 2 ^ m + 3 * 2 ^ m := by
            rw [Nat.add_sub_cancel]; grind
          omega
        rw [e5]
        have : 2 * (g + 1) * (3 * 2 ^ m) = (g + 1 + 0) * (2 ^ m * 2) + ((g + 1 + 0) * (2 ^ m * 2) + 2 ^ m * 2) + 2 * g * 2 ^ m := by grind
        omega
    · obtain ⟨i, rfl⟩ : ∃ i, j = i + 1 := ⟨j - 1, by omega⟩
      have e3 : val h ((k + 1) * h + (i + 1) - 1) = (h + i) * 2 ^ k := by
        rw [show (k + 1) * h + (i + 1) - 1 = (k + 1) * h + i by omega]; exact val_at (by omega)
      rw [e1, e2, e3]
      have e5 : (h + (i + 1)) * 2 ^ k + 2 ^ k - (h + i) * 2 ^ k = 2 * 2 ^ k := by
        have : (h + (i + 1)) * 2 ^ k + 2 ^ k = (h + i) * 2 ^ k + 2 * 2 ^ k := by grind
        omega
      rw [e5]
      have h7 : (2 * (h + (i + 1)) + 1) * 2 ^ k ≤ (4 * h) * 2 ^ k := Nat.mul_le_mul_right _ (by omega)
      have h8 : 2 * h * (2 * 2 ^ k) = (4 * h) * 2 ^ k := by grind
      have h9 : (h + (i + 1)) * 2 ^ k + ((h + (i + 1)) * 2 ^ k + 2 ^ k) = (2 * (h + (i + 1)) + 1) * 2 ^ k := by grind
      omega
/-- how many digits are shown. -/
theorem shown_len {t L R : Nat} {D : List UInt8} {x : Int} (ht : 1 ≤ t) (ht2 : t ≤ 52) (H : Shown t L R D x) (hR : R ≠ 0) : D.length ≤ 17 := by
  obtain ⟨q, hq⟩ : ∃ q : Int, q = x + 1 - D.length := ⟨_, rfl⟩
  obtain ⟨N, hN⟩ : ∃ N, N = natOf D := ⟨_, rfl⟩
  obtain ⟨Z0, hZ0⟩ : ∃ Z, Z = 10 ^ q.toNat * 2 ^ L := ⟨_, rfl⟩
  obtain ⟨E0, hE0⟩ : ∃ Z, Z = 10 ^ (-q).toNat := ⟨_, rfl⟩
  obtain ⟨Z1, hZ1⟩ : ∃ Z, Z = 10 ^ (q + 1).toNat * 2 ^ L := ⟨_, rfl⟩
  obtain ⟨E1, hE1⟩ : ∃ Z, Z = 10 ^ (-(q + 1)).toNat := ⟨_, rfl⟩
  have hrel : Z1 * E0 = 10 * Z0 * E1 := by
    rw [hZ1, hE0, hZ0, hE1]
    have e : 10 ^ (q + 1).toNat * 10 ^ (-q).toNat = 10 * 10 ^ q.toNat * 10 ^ (-(q + 1)).toNat := by
      rw [← Nat.pow_succ', ← Nat.pow_add, ← Nat.pow_add]; congr 1; omega
    calc 10 ^ (q + 1).toNat * 2 ^ L * 10 ^ (-q).toNat = (10 ^ (q + 1).toNat * 10 ^ (-q).toNat) * 2 ^ L := by grind
      _ = _ := by rw [e]; grind
  have hZ0p : 0 < Z0 := by rw [hZ0]; exact Nat.mul_pos (Nat.pow_pos (by omega)) (Nat.two_pow_pos _)
  have hZ1p : 0 < Z1 := by rw [hZ1]; exact Nat.mul_pos (Nat.pow_pos (by omega)) (Nat.two_pow_pos _)
  have hE0p : 0 < E0 := by rw [hE0]; exact Nat.pow_pos (by omega)
  have hE1p : 0 < E1 := by rw [hE1]; exact Nat.pow_pos (by omega)
  have hr := H.reads
  rw [← hq, ← hN] at hr
  have h1 : 2 * (N * Z0) ≤ mid (2 ^ t) R * E0 := by
    have := hr.2
    rw [← hE0, Nat.mul_assoc N, ← hZ0] at this
    omega
  have hvm : val (2 ^ t) (R - 1) ≤ val (2 ^ t) (R + 1) := val_mono (Nat.two_pow_pos t) (by omega)
  obtain ⟨g, hg⟩ : ∃ g, g = val (2 ^ t) (R + 1) - val (2 ^ t) (R - 1) := ⟨_, rfl⟩
  have hmm : mid (2 ^ t) R = mid (2 ^ t) (R - 1) + g := by
    unfold mid
    rw [show R - 1 + 1 = R by omega, hg]; omega
  have h2 : g * E1 ≤ 2 * Z1 := by
    rcases Nat.lt_or_ge (2 * Z1) (g * E1) with h3 | h3
    · exfalso
      obtain ⟨A, hA⟩ : ∃ A, A = mid (2 ^ t) (R - 1) * E1 := ⟨_, rfl⟩
      have hB : mid (2 ^ t) R * E1 = A + g * E1 := by rw [hmm, hA, Nat.add_mul]
      have hd := Nat.div_add_mod A (2 * Z1)
      have hml := Nat.mod_lt A (show 0 < 2 * Z1 by omega)
      have hy : 2 * ((A / (2 * Z1) + 1) * Z1) = 2 * Z1 * (A / (2 * Z1)) + 2 * Z1 := by grind
      refine H.short (A / (2 * Z1) + 1) (q + 1) (by omega) ⟨.inr (.inl ?_), .inl ?_⟩
      · rw [← hE1, ← hA, Nat.mul_assoc _ (10 ^ (q + 1).toNat), ← hZ1, hy]; omega
      · rw [← hE1, hB, Nat.mul_assoc _ (10 ^ (q + 1).toNat), ← hZ1, hy]; omega
    · exact h3
  have hgap := gap_ge (h := 2 ^ t) (R := R) (Nat.le_trans (by decide : 2 ≤ 2 ^ 1) (Nat.pow_le_pow_right (by omega) ht)) hR
  rw [← hg] at hgap
  have h5 : N * g ≤ 10 * mid (2 ^ t) R := by
    have a1 := Nat.mul_le_mul_right (E1 * g) h1
    have a2 := Nat.mul_le_mul_right (E0 * mid (2 ^ t) R) h2
    have a3 : 2 * (N * Z0) * (E1 * g) = 2 * (N * g) * (Z0 * E1) := by grind
    have a4 : g * E1 * (E0 * mid (2 ^ t) R) = mid (2 ^ t) R * E0 * (E1 * g) := by grind
    have a5 : 2 * Z1 * (E0 * mid (2 ^ t) R) = 2 * (Z1 * E0) * mid (2 ^ t) R := by grind
    rw [a3] at a1
    rw [a4, a5, hrel] at a2
    have a6 : 2 * (10 * Z0 * E1) * mid (2 ^ t) R = 20 * mid (2 ^ t) R * (Z0 * E1) := by grind
    rw [a6] at a2
    have a7 : 2 * (N * g) ≤ 20 * mid (2 ^ t) R := Nat.le_of_mul_le_mul_right (Nat.le_trans a1 a2) (Nat.mul_pos hZ0p hE1p)
    omega
  have hgp : 0 < g := by
    have := val_mono_lt (Nat.two_pow_pos t) (show R - 1 < R + 1 by omega)
    omega
  have h6 : N ≤ 20 * 2 ^ t := by
    have b1 : N * g ≤ 20 * 2 ^ t * g := by
      have : 10 * (2 * 2 ^ t * g) = 20 * 2 ^ t * g := by grind
      omega
    exact Nat.le_of_mul_le_mul_right b1 hgp
  have h7 : 2 ^ t ≤ 2 ^ 52 := Nat.pow_le_pow_right (by omega) ht2
  have h52 : (2 : Nat) ^ 52 = 4503599627370496 := rfl
  rcases Nat.lt_or_ge 17 D.length with h8 | h8
  · exfalso
    obtain ⟨a, r, hal⟩ : ∃ a r, D = a :: r := by
      cases hh : D with
      | nil => exact absurd hh H.ne
      | cons a r => exact ⟨a, r, rfl⟩
    have ha := H.first a (by rw [hal]; rfl)
    have had := H.dig a (by rw [hal]; exact List.mem_cons_self)
    unfold isDig at had
    have ha2 : a.toNat ≠ 48 := fun h => ha (UInt8.toNat.inj h)
    have h9 : 10 ^ 17 ≤ natOf D := by
      have h10 := natOf_append [a] r
      rw [show [a] ++ r = D by rw [hal]; rfl] at h10
      have h11 : 10 ^ 17 ≤ 10 ^ r.length := Nat.pow_le_pow_right (by omega) (by rw [hal] at h8; simp at h8; omega)
      have h12 : natOf [a] = a.toNat - 48 := by simp [natOf]
      rw [h12] at h10
      have h13 : 1 * 10 ^ r.length ≤ (a.toNat - 48) * 10 ^ r.length := Nat.mul_le_mul_right _ (by omega)
      omega
    have h17 : (10 : Nat) ^ 17 = 100000000000000000 := rfl
    omega
  · exact h8
theorem exp_trunc {E : List UInt8} (h : E.length ≤ 18) : truncN (leadDigits (E ++ [])) (leadDigits (E ++ [])).length = false := by
  rw [List.append_nil]
  refine truncN_small ?_
  have := leadDigits_len E
  omega
theorem read_exp64 {B : Nat} {E : List UInt8} {y : Int} (hne : E ≠ []) (hd : ∀ c ∈ E, isDig c) (hl : E.length ≤ 18) (hf : E.length = 1 ∨ E[0]? ≠ some 48) (hy : y.natAbs < 1000000) (w : World) (hG : Rich B w) (hB : B ≤ w.heap.size) :
    Calls Tryz.prog 28 #[.int .u8 1, .string (strL (expL E y))] w fun e w' => Rf 9218868437227405312 0 (ReadsAs 52 1074 (natOf E) y) e ∧ Below B w w' := by
  have hv := expL_val (D := E) hy
  have hil : (Lib.itoa y).length ≤ 21 := by rw [intL_itoa]; exact intL_len (by omega)
  have := read_num64 (expL_num y hne hd) hf w hG hB (by unfold expL; rw [List.length_append, List.length_append]; simp; omega) (exp_trunc hl)
  rw [hv.1, hv.2] at this
  exact this
theorem read_exp32 {B : Nat} {E : List UInt8} {y : Int} (hne : E ≠ []) (hd : ∀ c ∈ E, isDig c) (hl : E.length ≤ 18) (hf : E.length = 1 ∨ E[0]? ≠ some 48) (hy : y.natAbs < 1000000) (w : World) (hG : Rich B w) (hB : B ≤ w.heap.size) :
    Calls Tryz.prog 28 #[.int .u8 2, .string (strL (expL E y))] w fun e w' => Rf 2139095040 0 (ReadsAs 23 149 (natOf E) y) e ∧ Below B w w' := by
  have hv := expL_val (D := E) hy
  have hil : (Lib.itoa y).length ≤ 21 := by rw [intL_itoa]; exact intL_len (by omega)
  have := read_num32 (expL_num y hne hd) hf w hG hB (by unfold expL; rw [List.length_append, List.length_append]; simp; omega) (exp_trunc hl)
  rw [hv.1, hv.2] at this
  exact this
theorem Rf.other {inf R : Nat} {Q : Nat → Prop} {e : Ending} (h : Rf inf 0 Q e) (hR : R ≠ 0) (hn : ¬ Q R) : Other (R : Int) e := by
  obtain ⟨x, hx, he⟩ := h
  by_cases hi : x < inf
  · rw [if_pos hi] at he
    refine ⟨_, _, he, ?_⟩
    intro h2
    have : x = R := by omega
    rw [this] at hx
    exact hn hx
  · rw [if_neg hi] at he
    exact ⟨_, _, he, by omega⟩
theorem laid_not_inf {t L R : Nat} {D : List UInt8} {x : Int} (H : Shown t L R D x) : ((strL (laidL D x)).toList == [73, 110, 102, 105, 110, 105, 116, 121]) = false := by
  rw [beq_eq_false_iff_ne, ByteArray.toList_eq, strL_list]
  intro h
  obtain ⟨W, P, hasP, hasE, ec, xt, eneg, X, h1, -⟩ := laid_num H false
  have := h1.first.1
  rw [show (if false = true then [45] else []) ++ laidL D x = laidL D x by simp, h] at this
  exact (this 73 rfl).2 rfl
theorem short_wide {B : Nat} (bits R : Nat) (w : World) (hG : Rich B w) (hB : B ≤ w.heap.size) (h1 : bits < 18446744073709551616) (hR : R = bits % 9223372036854775808) :
    Calls Tryz.prog 7 #[.bool true, .int .u64 (bits : Nat)] w fun e w' => e = .returned (.bool true) ∧ Below B w w' := by
  have hv : (R : Int) = if true = true then (bits : Int) % 9223372036854775808 else (bits : Int) % 9223372036854775808 % 2147483648 := by rw [if_pos rfl]; omega
  have hRl : R < 9223372036854775808 := by omega
  have hRm : (R : Int) % 9223372036854775808 = R := by omega
  have tot : ∀ {f : Nat} {args : Array Value} {s : ByteArray}, (∀ wx, Rich B wx → B ≤ wx.heap.size → Calls Tryz.prog f args wx fun e w' => e = .returned (.string s) ∧ Below B wx w') → ∀ wx, Below B w wx → Calls Tryz.prog f args wx fun e w' => e = .returned (.string s) ∧ Below B w w' :=
    fun h wx hb => (h wx (hG.below hb) (Nat.le_trans hB hb.size)).mono fun e w' ⟨he, hb2⟩ => ⟨he, hb.trans hb2⟩
  rcases Nat.lt_or_ge 9218868437227405312 R with hn | hn
  · refine short_triv true bits 1 R ⟨#[78, 97, 78]⟩ w hG hB (by omega) (by omega) rfl hv (tot fun wx _ _ => nan_show64 R wx (by omega) (by omega)) (.inr (.inl ?_))
    unfold nanN
    rw [hRm, decide_eq_true (by omega : (9218868437227405312 : Int) < R)]
    rfl
  have hnn : nanN 1 R = false := by
    unfold nanN
    rw [hRm, decide_eq_false (by omega : ¬ (9218868437227405312 : Int) < R), decide_eq_false (by decide : ¬ (1 : Int) = 2)]
    rfl
  rcases Nat.lt_or_ge R 9218868437227405312 with h2 | h2
  · rcases Nat.eq_zero_or_pos R with h3 | h3
    · subst h3
      refine short_triv true bits 1 (0 : Nat) (strL (zeroL false)) w hG hB (by omega) (by omega) rfl hv (tot fun wx hG hB => show_fl64 _ _ wx (by omega) fun w' hw => ?_) (.inl rfl)
      subst hw
      exact floating_zero64 false _ hG.toGood hB
    · obtain ⟨D, x, hS, hC⟩ := floating64_any (B := B) false R (by omega) h2
      have hC2 : ∀ w, Good B w → B ≤ w.heap.size → Calls Tryz.prog 40 #[.float .f64 (R : Nat), .int .i64 64] w fun e w' => e = .returned (.string (strL (laidL D x))) ∧ Below B w w' := by
        have e0 : sgn64 false + R = R := by unfold sgn64; simp
        intro w hG hB
        have := hC w hG hB
        rw [e0] at this
        simpa using this
      have h17 := shown_len (by omega) (by omega) hS (by omega)
      have hl1 : 1 ≤ D.length := List.length_pos_iff.2 hS.ne
      have hfl : D[0]? ≠ some 48 := fun h => hS.first 48 h rfl
      have hlo := hS.lo
      have hhi := hS.hi
      refine short_core true bits 1 R (laidL D x) D x w hG hB (by omega) (by omega) rfl hv (tot fun wx hG hB => show_fl64 _ _ wx (by omega) fun w' hw => ?_) (by omega) hnn (laid_not_inf hS) (fun wx => parts_laid hS wx) hl1 h17 hlo hhi hS.dig hS.first (fun wx hb => ?_) (fun h2 wx hb => ?_) (fun h2 m hm wx hb => ?_)
      · subst hw; exact hC2 _ hG.toGood hB
      · refine (read_exp64 hS.ne hS.dig (by omega) (.inr hfl) (by omega) wx (hG.below hb) (Nat.le_trans hB hb.size)).mono fun e w' ⟨he, hb2⟩ => ⟨?_, hb.trans hb2⟩
        have := he.one (R := R) h2 (fun y hy => reads_one (by rw [show x - D.length + 1 = x + 1 - D.length by omega]; exact hS.reads) hy)
        rwa [Nat.zero_add] at this
      · refine (read_exp64 (by intro h; have := congrArg List.length h; rw [List.length_take, List.length_nil] at this; omega) (fun c hc => hS.dig c (List.mem_of_mem_take hc)) (by rw [List.length_take]; omega) (.inr (by rw [List.getElem?_take_of_lt (by omega)]; exact hfl)) (by omega) wx (hG.below hb) (Nat.le_trans hB hb.size)).mono fun e w' ⟨he, hb2⟩ => ⟨?_, hb.trans hb2⟩
        exact he.other (by omega) fun hq => hS.short _ _ (by omega) hq
      · have hml := hm.len
        rw [List.length_take] at hml
        refine (read_exp64 hm.ne hm.dig (by omega) (.inr hm.first) (by omega) wx (hG.below hb) (Nat.le_trans hB hb.size)).mono fun e w' ⟨he, hb2⟩ => ⟨?_, hb.trans hb2⟩
        exact he.other (by omega) fun hq => hS.short _ _ (by omega) hq
  · have h3 : R = 9218868437227405312 := by omega
    subst h3
    refine short_triv true bits 1 (9218868437227405312 : Nat) ⟨#[73, 110, 102, 105, 110, 105, 116, 121]⟩ w hG hB (by omega) (by omega) rfl hv (tot fun wx hG hB => ?_) (.inr (.inr rfl))
    have := inf_show64 (B := B) false wx
    exact this
end Go.Proofs.YtdfodfflkmcgpaaGreatDoor
/- NumsShort at every input: it returns true. -/
namespace Go.Proofs.YtdfodfflkmcgpaaGreatDoor
open Go.RowKit Go.Sort Near Parse
set_option linter.unusedVariables false
set_option maxHeartbeats 1600000
set_option maxRecDepth 100000
theorem short_narrow {B : Nat} (bits R : Nat) (w : World) (hG : Rich B w) (hB : B ≤ w.heap.size) (h1 : bits < 18446744073709551616) (hR : R = bits % 2147483648) :
    Calls Tryz.prog 7 #[.bool false, .int .u64 (bits : Nat)] w fun e w' => e = .returned (.bool true) ∧ Below B w w' := by
  have hv : (R : Int) = if false = true then (bits : Int) % 9223372036854775808 else (bits : Int) % 9223372036854775808 % 2147483648 := by rw [if_neg (by simp)]; omega
  have hRl : R < 2147483648 := by omega
  have hRm : (R : Int) % 2147483648 = R := by omega
  have tot : ∀ {f : Nat} {args : Array Value} {s : ByteArray}, (∀ wx, Rich B wx → B ≤ wx.heap.size → Calls Tryz.prog f args wx fun e w' => e = .returned (.string s) ∧ Below B wx w') → ∀ wx, Below B w wx → Calls Tryz.prog f args wx fun e w' => e = .returned (.string s) ∧ Below B w w' :=
    fun h wx hb => (h wx (hG.below hb) (Nat.le_trans hB hb.size)).mono fun e w' ⟨he, hb2⟩ => ⟨he, hb.trans hb2⟩
  rcases Nat.lt_or_ge 2139095040 R with hn | hn
  · refine short_triv false bits 2 R ⟨#[78, 97, 78]⟩ w hG hB (by omega) (by omega) rfl hv (tot fun wx _ _ => nan_show32 R wx (by omega) (by omega)) (.inr (.inl ?_))
    unfold nanN
    rw [hRm, decide_eq_true (by omega : (2139095040 : Int) < R)]
    rfl
  have hnn : nanN 2 R = false := by
    unfold nanN
    rw [hRm, decide_eq_false (by omega : ¬ (2139095040 : Int) < R), decide_eq_false (by decide : ¬ (2 : Int) = 1)]
    rfl
  rcases Nat.lt_or_ge R 2139095040 with h2 | h2
  · rcases Nat.eq_zero_or_pos R with h3 | h3
    · subst h3
      refine short_triv false bits 2 (0 : Nat) (strL (zeroL false)) w hG hB (by omega) (by omega) rfl hv (tot fun wx hG hB => show_fl32 _ (sgn64 false) _ wx wx (by omega) (Below.refl _ _) (run_convert_float_float wx 60 59 .f32 .f64 _ _ (by kernel_rfl) (by kernel_rfl) (wide_zero false)) fun w' hw => ?_) (.inl rfl)
      subst hw
      exact floating_zero32 false _ hG.toGood hB
    · obtain ⟨y, D, x, hy, hS, hC⟩ := floating32_any (B := B) false R (by omega) h2
      have e0 : sgn32 false + R = R := by unfold sgn32; simp
      rw [e0] at hy
      have hC2 : ∀ w, Good B w → B ≤ w.heap.size → Calls Tryz.prog 40 #[.float .f64 y, .int .i64 32] w fun e w' => e = .returned (.string (strL (laidL D x))) ∧ Below B w w' := by
        intro w hG hB
        have := hC w hG hB
        simpa using this
      have h17 := shown_len (by omega) (by omega) hS (by omega)
      have hl1 : 1 ≤ D.length := List.length_pos_iff.2 hS.ne
      have hfl : D[0]? ≠ some 48 := fun h => hS.first 48 h rfl
      have hlo := hS.lo
      have hhi := hS.hi
      refine short_core false bits 2 R (laidL D x) D x w hG hB (by omega) (by omega) rfl hv (tot fun wx hG hB => show_fl32 _ y _ wx wx (by omega) (Below.refl _ _) (run_convert_float_float wx 60 59 .f32 .f64 _ _ (by kernel_rfl) (by kernel_rfl) hy) fun w' hw => ?_) (by omega) hnn (laid_not_inf hS) (fun wx => parts_laid hS wx) hl1 h17 hlo hhi hS.dig hS.first (fun wx hb => ?_) (fun h2 wx hb => ?_) (fun h2 m hm wx hb => ?_)
      · subst hw; exact hC2 _ hG.toGood hB
      · refine (read_exp32 hS.ne hS.dig (by omega) (.inr hfl) (by omega) wx (hG.below hb) (Nat.le_trans hB hb.size)).mono fun e w' ⟨he, hb2⟩ => ⟨?_, hb.trans hb2⟩
        have := he.one (R := R) h2 (fun y hy => reads_one (by rw [show x - D.length + 1 = x + 1 - D.length by omega]; exact hS.reads) hy)
        rwa [Nat.zero_add] at this
      · refine (read_exp32 (by intro h; have := congrArg List.length h; rw [List.length_take, List.length_nil] at this; omega) (fun c hc => hS.dig c (List.mem_of_mem_take hc)) (by rw [List.length_take]; omega) (.inr (by rw [List.getElem?_take_of_lt (by omega)]; exact hfl)) (by omega) wx (hG.below hb) (Nat.le_trans hB hb.size)).mono fun e w' ⟨he, hb2⟩ => ⟨?_, hb.trans hb2⟩
        exact he.other (by omega) fun hq => hS.short _ _ (by omega) hq
      · have hml := hm.len
        rw [List.length_take] at hml
        refine (read_exp32 hm.ne hm.dig (by omega) (.inr hm.first) (by omega) wx (hG.below hb) (Nat.le_trans hB hb.size)).mono fun e w' ⟨he, hb2⟩ => ⟨?_, hb.trans hb2⟩
        exact he.other (by omega) fun hq => hS.short _ _ (by omega) hq
  · have h3 : R = 2139095040 := by omega
    subst h3
    refine short_triv false bits 2 (2139095040 : Nat) ⟨#[73, 110, 102, 105, 110, 105, 116, 121]⟩ w hG hB (by omega) (by omega) rfl hv (tot fun wx hG hB => ?_) (.inr (.inr rfl))
    have := inf_show32 (B := B) false wx
    exact this
theorem short_any {B : Nat} (wide : Bool) (bits : Nat) (w : World) (hG : Rich B w) (hB : B ≤ w.heap.size) (h1 : bits < 18446744073709551616) :
    Calls Tryz.prog 7 #[.bool wide, .int .u64 (bits : Nat)] w fun e w' => e = .returned (.bool true) ∧ Below B w w' := by
  cases wide
  · exact short_narrow bits _ w hG hB h1 rfl
  · exact short_wide bits _ w hG hB h1 rfl
end Go.Proofs.YtdfodfflkmcgpaaGreatDoor
