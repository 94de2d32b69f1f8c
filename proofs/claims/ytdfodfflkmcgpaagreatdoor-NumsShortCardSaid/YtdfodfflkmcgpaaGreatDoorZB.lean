/- A finite floating number in the exponent form, both widths: the shortest digits, laid out. -/
import Derived.Test.YtdfodfflkmcgpaaGreatDoorZA6
import Derived.Deep.RegionWith
import Derived.Laws.BytesArg
import Derived.Laws.OwnMore
import Derived.Lib.ItoaLen
import Derived.Lib.SmallJoins
namespace Go.Proofs.YtdfodfflkmcgpaaGreatDoor
open Go.RowKit Go.Sort
set_option linter.unusedVariables false
theorem run_f64bits (b : Nat) (w : World) : (callFunc 169 #[.float .f64 b]).run Tryz.prog w = .ok (.value (.int .u64 b)) w := by kernel_rfl
theorem run_f32bits (b : Nat) (w : World) : (callFunc 168 #[.float .f32 b]).run Tryz.prog w = .ok (.value (.int .u32 b)) w := by kernel_rfl
theorem len64_sh (mant : Nat) (w : World) (h0 : mant ≠ 0) (h1 : mant < 18446744073709551616) :
    Calls Tryz.prog 140 #[.int .u64 mant] w fun e w' => e = .returned (.int .i64 (64 - (sh mant : Int))) ∧ w' = w := by
  have hb := bitLen_bounds h0 h1
  have : (64 - (sh mant : Int)) = (Lib.bitLen mant : Int) := by unfold sh; omega
  rw [this]
  exact Tryz.bits_Len64 mant w (by omega) (by omega)

/-- digits in the exponent form: the first, a point and the others if there are any, the exponent. -/
def textE (d : Nat) (p : Int) : List Int :=
  (digs d).take 1 ++ (if nzAt (digs d) (Lib.nDigits d) ≤ 1 then [] else 46 :: ((digs d).take (nzAt (digs d) (Lib.nDigits d))).drop 1) ++ [101] ++ expText ((Lib.nDigits d : Int) + p - 1)

theorem nzAt_le (D : List Int) (k : Nat) : nzAt D k ≤ k := by
  induction k with
  | zero => exact Nat.le_refl _
  | succ k ih => rw [nzAt]; split <;> omega
theorem nzAt_pos (D : List Int) (h : D.getD 0 0 ≠ 48) (k : Nat) (hk : 1 ≤ k) : 1 ≤ nzAt D k := by
  induction k with
  | zero => omega
  | succ k ih =>
    rw [nzAt]; split
    · rename_i h48
      rcases Nat.eq_zero_or_pos k with rfl | hp
      · exact absurd h48 h
      · exact ih hp
    · omega
theorem digs_first (d : Nat) (hd : 1 ≤ d) : (digs d).getD 0 0 ≠ 48 := by
  induction d using Nat.strongRecOn with
  | ind d ih =>
    by_cases h10 : d < 10
    · have e : digs d = [((UInt8.ofNat (48 + d)).toNat : Int)] := by unfold digs; rw [Lib.decDigits_one h10]; rfl
      rw [e]
      simp only [List.getD_cons_zero]
      rw [UInt8.toNat_ofNat']; omega
    · have e : digs d = digs (d / 10) ++ [((UInt8.ofNat (48 + d % 10)).toNat : Int)] := by
        unfold digs; rw [Lib.decDigits, dif_neg h10]; simp
      have hl : 0 < (digs (d / 10)).length := by rw [digs_length]; exact Lib.nDigits_pos _
      rw [e, List.getD_eq_getElem?_getD, List.getElem?_append_left hl, ← List.getD_eq_getElem?_getD]
      exact ih (d / 10) (by omega) (by omega)

theorem Out.rebase {B : Nat} {w w2 w' : World} {v : Value} {n : Nat} {xs : List Value} (hb : Below w.heap.size w w2) (hB : B ≤ w.heap.size) (h : Out B w2 w' v n xs) : Out B w w' v n xs :=
  ⟨h.own, (hb.mono hB).trans h.below, fun g cs t fz ht hg => h.keep g cs t fz ht ((hb.block g (heap_lt hg)).trans hg), hB⟩
theorem Out.later {B : Nat} {w w2 : World} {v : Value} {n : Nat} {xs : List Value} (h : Out B w w v n xs) (hb : Below w.heap.size w w2) : Out B w2 w2 v n xs :=
  ⟨h.own.kept (row := none) ⟨hb.os, hb.tape, hb.output, hb.size, fun k hk _ => hb.block k hk⟩ (by
      rcases hv : v.ownBlock with _ | k
      · exact .inl rfl
      · exact .inr (by simp)), Below.refl _ _, Keep.refl _, Nat.le_trans h.base hb.size⟩
theorem zeros32 : (#[Value.int .u8 0, Value.int .u8 0, Value.int .u8 0, Value.int .u8 0, Value.int .u8 0, Value.int .u8 0, Value.int .u8 0, Value.int .u8 0, Value.int .u8 0, Value.int .u8 0, Value.int .u8 0, Value.int .u8 0, Value.int .u8 0, Value.int .u8 0, Value.int .u8 0, Value.int .u8 0, Value.int .u8 0, Value.int .u8 0, Value.int .u8 0, Value.int .u8 0, Value.int .u8 0, Value.int .u8 0, Value.int .u8 0, Value.int .u8 0, Value.int .u8 0, Value.int .u8 0, Value.int .u8 0, Value.int .u8 0, Value.int .u8 0, Value.int .u8 0, Value.int .u8 0, Value.int .u8 0] : Array Value) = Array.replicate 32 (Value.int .u8 0) := rfl

/-- the exponent form of digits that stand in a buffer. -/
theorem efg_any {B : Nat} (neg : Bool) (w0 w2 : World) (v : Value) (n : Nat) (xs : List Value) (g d nd : Nat) (p : Int) (hO : Out B w2 w2 v n xs) (hn : n ≤ 1000) (hD : Digits g d nd w0 w2) (hnd : Lib.nDigits d = nd) (hnd2 : nd ≤ 20) (hd : 1 ≤ d) (h0 : -350 ≤ p) (h1 : p ≤ 350) (prec : Int) (hprec : prec = (nzAt (digs d) nd : Int) - 1) :
    Calls Tryz.prog 172 #[v, .bool neg, .slice (some ⟨g, 0, none⟩) 32 32, .int .i64 (nd + p), .int .i64 (nzAt (digs d) nd), .int .i64 prec, .int .u8 101, .bool true] w2 (Appended B w2 n xs (signOf neg ++ textE d p)) := by
  obtain ⟨_, cs, hbuf, hcs⟩ := hD
  have hpos : 1 ≤ nd := by rw [← hnd]; exact Lib.nDigits_pos _
  have hz1 := nzAt_pos (digs d) (digs_first d hd) nd hpos
  have hz2 := nzAt_le (digs d) nd
  have hl : (digs d).length = nd := by rw [digs_length, hnd]
  unfold textE
  rw [hnd]
  have ht1 : (digs d).take 1 = [(digs d).getD 0 0] := by
    cases hdd : digs d with
    | nil => rw [hdd] at hl; simp at hl; omega
    | cons a l => simp
  rw [ht1]
  have hb0 := hcs 0 (by omega)
  subst hprec
  by_cases h1z : nzAt (digs d) nd ≤ 1
  · have e1 : nzAt (digs d) nd = 1 := by omega
    rw [if_pos h1z, e1]
    have := efg_one neg w2 v n xs g cs (nd + p) hO hn hbuf (by omega) (by omega) _ hb0
    simpa using this
  · rw [if_neg h1z]
    have hlen : (((digs d).take (nzAt (digs d) nd)).drop 1).length = ((nzAt (digs d) nd : Nat) : Int).toNat - 1 := by simp; omega
    have := efg_more neg w2 v n xs g cs (nd + p) ((nzAt (digs d) nd : Nat) : Int) hO hn hbuf (by omega) (by omega) _ hb0 (by omega) (by omega) (by rw [bne_iff_ne]; omega) (((digs d).take (nzAt (digs d) nd)).drop 1) hlen ?_
    · simpa using this
    · intro j u hj
      rw [List.getElem?_map] at hj
      obtain ⟨z, hz, rfl⟩ := Option.map_eq_some_iff.1 hj
      rw [List.getElem?_drop, List.getElem?_take] at hz
      split at hz
      · rw [hcs (1 + j) (by omega), List.getD_eq_getElem?_getD, hz]; rfl
      · cases hz
end Go.Proofs.YtdfodfflkmcgpaaGreatDoor
/- A finite floating number in the exponent form: normal, subnormal, zero. -/
namespace Go.Proofs.YtdfodfflkmcgpaaGreatDoor
open Go.RowKit Go.Sort
set_option linter.unusedVariables false

set_option maxRecDepth 100000 in
set_option maxHeartbeats 800000 in
theorem ftoa64_nor {B : Nat} (b mant : Nat) (neg : Bool) (v : Value) (n : Nat) (xs : List Value) (w : World) (hG : Good B w) (hO : Out B w w v n xs) (hn : n ≤ 1000) (e m u : Int) (hb : b < 18446744073709551616)
    (he : bits .and .i64 ((b : Int) / 4503599627370496) 2047 = e) (hneg : ((b : Int) / 9223372036854775808 != 0) = neg) (hm : bits .and .u64 (b : Int) 4503599627370495 = m) (hM : bits .or .u64 m 4503599627370496 = (mant : Int)) (he2 : (e == 0) = false) (he3 : e < 2047) (he4 : 0 < e) (hu : Hid (u = e - 1075))
    (hm0 : 0 < mant) (hm1 : mant < 9007199254740992) (A : Bool) (hA : Hid (decide (mant = 4503599627370496 ∧ (-1074 : Int) < u) = A)) (hu0 : -1074 ≤ u) (hu1 : u ≤ 971) (hsub : mant < 4503599627370496 → u = -1074) (d : Nat) (p : Int) (hR : Hid (shortR mant u A = ((d : Int), p))) (hd : 1 ≤ d) (hd2 : d < 18446744073709551616) (hp0 : -350 ≤ p) (hp1 : p ≤ 350) :
    Calls Tryz.prog 145 #[v, .float .f64 b, .int .u8 101, .int .i64 (-1)] w (Appended B w n xs (signOf neg ++ textE d p)) := by
  have hfb := run_f64bits b
  have h40 : ((mant : Int) == 0) = false := by rw [beq_eq_false_iff_ne]; omega
  have hlen := fun w => len64_sh mant w (by omega) (by omega)
  obtain ⟨hs1, hs2, hs3⟩ := sh_bounds (x := mant) (by omega) (by omega)
  have hS : ∀ W, Good B W → B ≤ W.heap.size → Calls Tryz.prog 179 #[.int .u64 ((mant : Int) * 2 ^ sh mant), .int .i64 (u - sh mant)] W fun e' w' => e' = .returned (.tuple #[.int .u64 d, .int .i64 p]) ∧ Below W.heap.size W w' := by
    intro W hGW hBW
    have := short64_all mant u W hGW hBW (by omega) hm1 hu0 hu1 hsub
    rw [hA.out, hR.out] at this
    exact this
  have HS := Lib.hid hS
  have hwr : IntKind.u64.wrap ((mant : Int) * 2 ^ sh mant) = (mant : Int) * 2 ^ sh mant := by
    have : ((mant : Int) * 2 ^ sh mant) = ((mant * 2 ^ sh mant : Nat) : Int) := by simp
    rw [this, u64_wrap_id _ (by omega) (by omega)]
  obtain ⟨s, hs⟩ : ∃ s, sh mant = s := ⟨_, rfl⟩
  rw [hs] at hlen hwr hs1
  have Hwr := Lib.hid hwr
  have Hs := Lib.hid hs
  clear hs hS hwr hs2 hs3
  have HL := Lib.hid hlen
  have hB := hO.base
  obtain ⟨nd, hnd⟩ : ∃ nd, Lib.nDigits d = nd := ⟨_, rfl⟩
  have Hnd := Lib.hid hnd
  have hndl : nd ≤ 20 := by
    rw [← hnd]
    have := Lib.numDigits_eq d hd hd2
    rw [← this.1]
    have h2 := this.2
    split <;> omega
  have hnd1 : 1 ≤ nd := by rw [← hnd]; exact Lib.nDigits_pos d
  clear hlen hnd hsub
  have h41 : (((nd : Nat) : Int) - 1 < 0) = False := by simp; omega
  go_enter Tryz.func145, Tryz.ntmps145
  go_wp2_with fail
  go_quiet (fail)
  go_wp2_with fail
  refine (HL.out _).mono ?_
  rintro e' w' ⟨rfl, hw'⟩; rw [hw']; clear hw' w'
  go_wp2_with fail
  have hg1 : Below w.heap.size w ((w.drewN nq).alloc (.cells (Array.replicate 32 (.int .u8 0)) 178)) := (below_drewN (Below.refl _ _) nq).alloc (by simp) _
  have hgs : ((w.drewN nq).alloc (.cells (Array.replicate 32 (.int .u8 0)) 178)).heap[w.heap.size]? = some (.cells (Array.replicate 32 (.int .u8 0)) 178 (0, 0)) := heap_alloc_new (w.drewN nq) _
  have hsz : ((w.drewN nq).alloc (.cells (Array.replicate 32 (.int .u8 0)) 178)).heap.size = w.heap.size + 1 := by simp
  rw [zeros32]
  generalize hW : (w.drewN nq).alloc (.cells (Array.replicate 32 (.int .u8 0)) 178) = W at *
  clear hW
  rw [show (64 - (64 - s)) = s from by omega, Hwr.out, show (e + -1023 - (64 - (64 - (s : Int))) - 52) = u - (s : Int) from by have := hu.out; omega, ← Hs.out]
  refine (HS.out W (hG.below (hg1.mono hB)) (by omega)).mono ?_
  rintro e' w1 ⟨rfl, hb1⟩
  have hgs1 : w1.heap[w.heap.size]? = some (.cells (Array.replicate 32 (.int .u8 0)) 178 (0, 0)) := (hb1.block _ (by omega)).trans hgs
  have hg2 : Below w.heap.size w w1 := hg1.trans (hb1.mono (by omega))
  have hG1 : Good B w1 := hG.below (hg2.mono hB)
  have HG1 := Lib.hid hgs1
  clear hgs hgs1 hb1 hsz hg1
  go_wp2_with fail
  go_region_with (first | (go_at_call 108; refine (Tryz.internal_strconv_numDigits d hd hd2 _ (by exact hG1.u64p)).mono ?_; rintro e' w' ⟨rfl, hw'⟩; rw [hw', Hnd.out]; clear hw' w') | (go_at_call 174; refine (setDigits_any w.heap.size d nd p _ (by exact HG1.out) hd hd2 Hnd.out hndl hnd1 (by omega) (by omega)).mono ?_; rintro e' w2 ⟨rfl, hD⟩))
  have hz1 := nzAt_pos (digs d) (digs_first d hd) nd hnd1
  have hz2 := nzAt_le (digs d) nd
  have hg3 : Below w.heap.size w w2 := hg2.trans ⟨hD.1.os, hD.1.tape, hD.1.output, hD.1.size, fun k hk => hD.1.block k (Nat.lt_of_lt_of_le hk hg2.size) (by intro h; injection h with h; omega)⟩
  have Hg3 := Lib.hid hg3
  have HD := Lib.hid hD
  clear hD hg3
  obtain ⟨nz, hnz⟩ : ∃ nz, nzAt (digs d) nd = nz := ⟨_, rfl⟩
  have Hnz := Lib.hid hnz
  rw [hnz] at hz1 hz2 ⊢
  clear hnz
  go_wp2_with fail
  rw [show max ((nz : Int) - 1) 0 = (nz : Int) - 1 from by omega, ← Hnz.out]
  refine (efg_any neg _ w2 v n xs w.heap.size d nd p (hO.later Hg3.out) hn HD.out Hnd.out hndl hd hp0 hp1 _ rfl).mono ?_
  rintro e' w3 ⟨v3, rfl, hO3⟩
  go_wp2_with fail
  go_ret
  exact ⟨_, rfl, hO3.rebase Hg3.out hO.base⟩

set_option maxRecDepth 100000 in
set_option maxHeartbeats 800000 in
theorem ftoa64_sub {B : Nat} (b mant : Nat) (neg : Bool) (v : Value) (n : Nat) (xs : List Value) (w : World) (hG : Good B w) (hO : Out B w w v n xs) (hn : n ≤ 1000) (m u : Int) (hb : b < 18446744073709551616)
    (he : bits .and .i64 ((b : Int) / 4503599627370496) 2047 = 0) (hneg : ((b : Int) / 9223372036854775808 != 0) = neg) (hm : bits .and .u64 (b : Int) 4503599627370495 = m) (hM : m = (mant : Int)) (_he2 : True) (hu : Hid (u = -1074))
    (hm0 : 0 < mant) (hm1 : mant < 9007199254740992) (A : Bool) (hA : Hid (decide (mant = 4503599627370496 ∧ (-1074 : Int) < u) = A)) (hu0 : -1074 ≤ u) (hu1 : u ≤ 971) (hsub : mant < 4503599627370496 → u = -1074) (d : Nat) (p : Int) (hR : Hid (shortR mant u A = ((d : Int), p))) (hd : 1 ≤ d) (hd2 : d < 18446744073709551616) (hp0 : -350 ≤ p) (hp1 : p ≤ 350) :
    Calls Tryz.prog 145 #[v, .float .f64 b, .int .u8 101, .int .i64 (-1)] w (Appended B w n xs (signOf neg ++ textE d p)) := by
  have hfb := run_f64bits b
  have h40 : ((mant : Int) == 0) = false := by rw [beq_eq_false_iff_ne]; omega
  have hlen := fun w => len64_sh mant w (by omega) (by omega)
  obtain ⟨hs1, hs2, hs3⟩ := sh_bounds (x := mant) (by omega) (by omega)
  have hS : ∀ W, Good B W → B ≤ W.heap.size → Calls Tryz.prog 179 #[.int .u64 ((mant : Int) * 2 ^ sh mant), .int .i64 (u - sh mant)] W fun e' w' => e' = .returned (.tuple #[.int .u64 d, .int .i64 p]) ∧ Below W.heap.size W w' := by
    intro W hGW hBW
    have := short64_all mant u W hGW hBW (by omega) hm1 hu0 hu1 hsub
    rw [hA.out, hR.out] at this
    exact this
  have HS := Lib.hid hS
  have hwr : IntKind.u64.wrap ((mant : Int) * 2 ^ sh mant) = (mant : Int) * 2 ^ sh mant := by
    have : ((mant : Int) * 2 ^ sh mant) = ((mant * 2 ^ sh mant : Nat) : Int) := by simp
    rw [this, u64_wrap_id _ (by omega) (by omega)]
  obtain ⟨s, hs⟩ : ∃ s, sh mant = s := ⟨_, rfl⟩
  rw [hs] at hlen hwr hs1
  have Hwr := Lib.hid hwr
  have Hs := Lib.hid hs
  clear hs hS hwr hs2 hs3
  have HL := Lib.hid hlen
  have hB := hO.base
  obtain ⟨nd, hnd⟩ : ∃ nd, Lib.nDigits d = nd := ⟨_, rfl⟩
  have Hnd := Lib.hid hnd
  have hndl : nd ≤ 20 := by
    rw [← hnd]
    have := Lib.numDigits_eq d hd hd2
    rw [← this.1]
    have h2 := this.2
    split <;> omega
  have hnd1 : 1 ≤ nd := by rw [← hnd]; exact Lib.nDigits_pos d
  clear hlen hnd hsub
  have h41 : (((nd : Nat) : Int) - 1 < 0) = False := by simp; omega
  go_enter Tryz.func145, Tryz.ntmps145
  go_wp2_with fail
  go_quiet (fail)
  go_wp2_with fail
  refine (HL.out _).mono ?_
  rintro e' w' ⟨rfl, hw'⟩; rw [hw']; clear hw' w'
  go_wp2_with fail
  have hg1 : Below w.heap.size w ((w.drewN nq).alloc (.cells (Array.replicate 32 (.int .u8 0)) 178)) := (below_drewN (Below.refl _ _) nq).alloc (by simp) _
  have hgs : ((w.drewN nq).alloc (.cells (Array.replicate 32 (.int .u8 0)) 178)).heap[w.heap.size]? = some (.cells (Array.replicate 32 (.int .u8 0)) 178 (0, 0)) := heap_alloc_new (w.drewN nq) _
  have hsz : ((w.drewN nq).alloc (.cells (Array.replicate 32 (.int .u8 0)) 178)).heap.size = w.heap.size + 1 := by simp
  rw [zeros32]
  generalize hW : (w.drewN nq).alloc (.cells (Array.replicate 32 (.int .u8 0)) 178) = W at *
  clear hW
  rw [show (64 - (64 - s)) = s from by omega, Hwr.out, show (-1022 - (64 - (64 - (s : Int))) - 52) = u - (s : Int) from by have := hu.out; omega, ← Hs.out]
  refine (HS.out W (hG.below (hg1.mono hB)) (by omega)).mono ?_
  rintro e' w1 ⟨rfl, hb1⟩
  have hgs1 : w1.heap[w.heap.size]? = some (.cells (Array.replicate 32 (.int .u8 0)) 178 (0, 0)) := (hb1.block _ (by omega)).trans hgs
  have hg2 : Below w.heap.size w w1 := hg1.trans (hb1.mono (by omega))
  have hG1 : Good B w1 := hG.below (hg2.mono hB)
  have HG1 := Lib.hid hgs1
  clear hgs hgs1 hb1 hsz hg1
  go_wp2_with fail
  go_region_with (first | (go_at_call 108; refine (Tryz.internal_strconv_numDigits d hd hd2 _ (by exact hG1.u64p)).mono ?_; rintro e' w' ⟨rfl, hw'⟩; rw [hw', Hnd.out]; clear hw' w') | (go_at_call 174; refine (setDigits_any w.heap.size d nd p _ (by exact HG1.out) hd hd2 Hnd.out hndl hnd1 (by omega) (by omega)).mono ?_; rintro e' w2 ⟨rfl, hD⟩))
  have hz1 := nzAt_pos (digs d) (digs_first d hd) nd hnd1
  have hz2 := nzAt_le (digs d) nd
  have hg3 : Below w.heap.size w w2 := hg2.trans ⟨hD.1.os, hD.1.tape, hD.1.output, hD.1.size, fun k hk => hD.1.block k (Nat.lt_of_lt_of_le hk hg2.size) (by intro h; injection h with h; omega)⟩
  have Hg3 := Lib.hid hg3
  have HD := Lib.hid hD
  clear hD hg3
  obtain ⟨nz, hnz⟩ : ∃ nz, nzAt (digs d) nd = nz := ⟨_, rfl⟩
  have Hnz := Lib.hid hnz
  rw [hnz] at hz1 hz2 ⊢
  clear hnz
  go_wp2_with fail
  rw [show max ((nz : Int) - 1) 0 = (nz : Int) - 1 from by omega, ← Hnz.out]
  refine (efg_any neg _ w2 v n xs w.heap.size d nd p (hO.later Hg3.out) hn HD.out Hnd.out hndl hd hp0 hp1 _ rfl).mono ?_
  rintro e' w3 ⟨v3, rfl, hO3⟩
  go_wp2_with fail
  go_ret
  exact ⟨_, rfl, hO3.rebase Hg3.out hO.base⟩

set_option maxRecDepth 100000 in
set_option maxHeartbeats 800000 in
theorem ftoa32_nor {B : Nat} (b mant : Nat) (neg : Bool) (v : Value) (n : Nat) (xs : List Value) (w : World) (hG : Good B w) (hO : Out B w w v n xs) (hn : n ≤ 1000) (e m u : Int) (hb : b < 4294967296)
    (he : bits .and .i64 ((b : Int) / 8388608) 255 = e) (hneg : ((b : Int) / 2147483648 != 0) = neg) (hm : bits .and .u64 (b : Int) 8388607 = m) (hM : bits .or .u64 m 8388608 = (mant : Int)) (he2 : (e == 0) = false) (he3 : e < 255) (he4 : 0 < e) (hu : Hid (u = e - 150))
    (hm0 : 0 < mant) (hm1 : mant < 16777216) (A : Bool) (hA : Hid (decide (mant = 8388608 ∧ (-149 : Int) < u) = A)) (hu0 : -149 ≤ u) (hu1 : u ≤ 104) (hsub : mant < 8388608 → u = -149) (d : Nat) (p : Int) (hR : Hid (shortR mant u A = ((d : Int), p))) (hd : 1 ≤ d) (hd2 : d < 18446744073709551616) (hp0 : -350 ≤ p) (hp1 : p ≤ 350) :
    Calls Tryz.prog 144 #[v, .float .f32 b, .int .u8 101, .int .i64 (-1)] w (Appended B w n xs (signOf neg ++ textE d p)) := by
  have hfb := run_f32bits b
  have h40 : ((mant : Int) == 0) = false := by rw [beq_eq_false_iff_ne]; omega
  have hlen := fun w => len64_sh mant w (by omega) (by omega)
  obtain ⟨hs1, hs2, hs3⟩ := sh_bounds (x := mant) (by omega) (by omega)
  have hS : ∀ W, Good B W → B ≤ W.heap.size → Calls Tryz.prog 173 #[.int .u64 ((mant : Int) * 2 ^ sh mant), .int .i64 (u - sh mant)] W fun e' w' => e' = .returned (.tuple #[.int .u64 d, .int .i64 p]) ∧ Below W.heap.size W w' := by
    intro W hGW hBW
    have := short32_all mant u W hGW hBW (by omega) hm1 hu0 hu1 hsub
    rw [hA.out, hR.out] at this
    exact this
  have HS := Lib.hid hS
  have hwr : IntKind.u64.wrap ((mant : Int) * 2 ^ sh mant) = (mant : Int) * 2 ^ sh mant := by
    have : ((mant : Int) * 2 ^ sh mant) = ((mant * 2 ^ sh mant : Nat) : Int) := by simp
    rw [this, u64_wrap_id _ (by omega) (by omega)]
  obtain ⟨s, hs⟩ : ∃ s, sh mant = s := ⟨_, rfl⟩
  rw [hs] at hlen hwr hs1
  have Hwr := Lib.hid hwr
  have Hs := Lib.hid hs
  clear hs hS hwr hs2 hs3
  have HL := Lib.hid hlen
  have hB := hO.base
  obtain ⟨nd, hnd⟩ : ∃ nd, Lib.nDigits d = nd := ⟨_, rfl⟩
  have Hnd := Lib.hid hnd
  have hndl : nd ≤ 20 := by
    rw [← hnd]
    have := Lib.numDigits_eq d hd hd2
    rw [← this.1]
    have h2 := this.2
    split <;> omega
  have hnd1 : 1 ≤ nd := by rw [← hnd]; exact Lib.nDigits_pos d
  clear hlen hnd hsub
  have h41 : (((nd : Nat) : Int) - 1 < 0) = False := by simp; omega
  go_enter Tryz.func144, Tryz.ntmps144
  go_wp2_with fail
  go_quiet (fail)
  go_wp2_with fail
  refine (HL.out _).mono ?_
  rintro e' w' ⟨rfl, hw'⟩; rw [hw']; clear hw' w'
  go_wp2_with fail
  have hg1 : Below w.heap.size w ((w.drewN nq).alloc (.cells (Array.replicate 32 (.int .u8 0)) 178)) := (below_drewN (Below.refl _ _) nq).alloc (by simp) _
  have hgs : ((w.drewN nq).alloc (.cells (Array.replicate 32 (.int .u8 0)) 178)).heap[w.heap.size]? = some (.cells (Array.replicate 32 (.int .u8 0)) 178 (0, 0)) := heap_alloc_new (w.drewN nq) _
  have hsz : ((w.drewN nq).alloc (.cells (Array.replicate 32 (.int .u8 0)) 178)).heap.size = w.heap.size + 1 := by simp
  rw [zeros32]
  generalize hW : (w.drewN nq).alloc (.cells (Array.replicate 32 (.int .u8 0)) 178) = W at *
  clear hW
  rw [show (64 - (64 - s)) = s from by omega, Hwr.out, show (e + -127 - (64 - (64 - (s : Int))) - 23) = u - (s : Int) from by have := hu.out; omega, ← Hs.out]
  refine (HS.out W (hG.below (hg1.mono hB)) (by omega)).mono ?_
  rintro e' w1 ⟨rfl, hb1⟩
  have hgs1 : w1.heap[w.heap.size]? = some (.cells (Array.replicate 32 (.int .u8 0)) 178 (0, 0)) := (hb1.block _ (by omega)).trans hgs
  have hg2 : Below w.heap.size w w1 := hg1.trans (hb1.mono (by omega))
  have hG1 : Good B w1 := hG.below (hg2.mono hB)
  have HG1 := Lib.hid hgs1
  clear hgs hgs1 hb1 hsz hg1
  go_wp2_with fail
  go_region_with (first | (go_at_call 108; refine (Tryz.internal_strconv_numDigits d hd hd2 _ (by exact hG1.u64p)).mono ?_; rintro e' w' ⟨rfl, hw'⟩; rw [hw', Hnd.out]; clear hw' w') | (go_at_call 174; refine (setDigits_any w.heap.size d nd p _ (by exact HG1.out) hd hd2 Hnd.out hndl hnd1 (by omega) (by omega)).mono ?_; rintro e' w2 ⟨rfl, hD⟩))
  have hz1 := nzAt_pos (digs d) (digs_first d hd) nd hnd1
  have hz2 := nzAt_le (digs d) nd
  have hg3 : Below w.heap.size w w2 := hg2.trans ⟨hD.1.os, hD.1.tape, hD.1.output, hD.1.size, fun k hk => hD.1.block k (Nat.lt_of_lt_of_le hk hg2.size) (by intro h; injection h with h; omega)⟩
  have Hg3 := Lib.hid hg3
  have HD := Lib.hid hD
  clear hD hg3
  obtain ⟨nz, hnz⟩ : ∃ nz, nzAt (digs d) nd = nz := ⟨_, rfl⟩
  have Hnz := Lib.hid hnz
  rw [hnz] at hz1 hz2 ⊢
  clear hnz
  go_wp2_with fail
  rw [show max ((nz : Int) - 1) 0 = (nz : Int) - 1 from by omega, ← Hnz.out]
  refine (efg_any neg _ w2 v n xs w.heap.size d nd p (hO.later Hg3.out) hn HD.out Hnd.out hndl hd hp0 hp1 _ rfl).mono ?_
  rintro e' w3 ⟨v3, rfl, hO3⟩
  go_wp2_with fail
  go_ret
  exact ⟨_, rfl, hO3.rebase Hg3.out hO.base⟩

set_option maxRecDepth 100000 in
set_option maxHeartbeats 800000 in
theorem ftoa32_sub {B : Nat} (b mant : Nat) (neg : Bool) (v : Value) (n : Nat) (xs : List Value) (w : World) (hG : Good B w) (hO : Out B w w v n xs) (hn : n ≤ 1000) (m u : Int) (hb : b < 4294967296)
    (he : bits .and .i64 ((b : Int) / 8388608) 255 = 0) (hneg : ((b : Int) / 2147483648 != 0) = neg) (hm : bits .and .u64 (b : Int) 8388607 = m) (hM : m = (mant : Int)) (_he2 : True) (hu : Hid (u = -149))
    (hm0 : 0 < mant) (hm1 : mant < 16777216) (A : Bool) (hA : Hid (decide (mant = 8388608 ∧ (-149 : Int) < u) = A)) (hu0 : -149 ≤ u) (hu1 : u ≤ 104) (hsub : mant < 8388608 → u = -149) (d : Nat) (p : Int) (hR : Hid (shortR mant u A = ((d : Int), p))) (hd : 1 ≤ d) (hd2 : d < 18446744073709551616) (hp0 : -350 ≤ p) (hp1 : p ≤ 350) :
    Calls Tryz.prog 144 #[v, .float .f32 b, .int .u8 101, .int .i64 (-1)] w (Appended B w n xs (signOf neg ++ textE d p)) := by
  have hfb := run_f32bits b
  have h40 : ((mant : Int) == 0) = false := by rw [beq_eq_false_iff_ne]; omega
  have hlen := fun w => len64_sh mant w (by omega) (by omega)
  obtain ⟨hs1, hs2, hs3⟩ := sh_bounds (x := mant) (by omega) (by omega)
  have hS : ∀ W, Good B W → B ≤ W.heap.size → Calls Tryz.prog 173 #[.int .u64 ((mant : Int) * 2 ^ sh mant), .int .i64 (u - sh mant)] W fun e' w' => e' = .returned (.tuple #[.int .u64 d, .int .i64 p]) ∧ Below W.heap.size W w' := by
    intro W hGW hBW
    have := short32_all mant u W hGW hBW (by omega) hm1 hu0 hu1 hsub
    rw [hA.out, hR.out] at this
    exact this
  have HS := Lib.hid hS
  have hwr : IntKind.u64.wrap ((mant : Int) * 2 ^ sh mant) = (mant : Int) * 2 ^ sh mant := by
    have : ((mant : Int) * 2 ^ sh mant) = ((mant * 2 ^ sh mant : Nat) : Int) := by simp
    rw [this, u64_wrap_id _ (by omega) (by omega)]
  obtain ⟨s, hs⟩ : ∃ s, sh mant = s := ⟨_, rfl⟩
  rw [hs] at hlen hwr hs1
  have Hwr := Lib.hid hwr
  have Hs := Lib.hid hs
  clear hs hS hwr hs2 hs3
  have HL := Lib.hid hlen
  have hB := hO.base
  obtain ⟨nd, hnd⟩ : ∃ nd, Lib.nDigits d = nd := ⟨_, rfl⟩
  have Hnd := Lib.hid hnd
  have hndl : nd ≤ 20 := by
    rw [← hnd]
    have := Lib.numDigits_eq d hd hd2
    rw [← this.1]
    have h2 := this.2
    split <;> omega
  have hnd1 : 1 ≤ nd := by rw [← hnd]; exact Lib.nDigits_pos d
  clear hlen hnd hsub
  have h41 : (((nd : Nat) : Int) - 1 < 0) = False := by simp; omega
  go_enter Tryz.func144, Tryz.ntmps144
  go_wp2_with fail
  go_quiet (fail)
  go_wp2_with fail
  refine (HL.out _).mono ?_
  rintro e' w' ⟨rfl, hw'⟩; rw [hw']; clear hw' w'
  go_wp2_with fail
  have hg1 : Below w.heap.size w ((w.drewN nq).alloc (.cells (Array.replicate 32 (.int .u8 0)) 178)) := (below_drewN (Below.refl _ _) nq).alloc (by simp) _
  have hgs : ((w.drewN nq).alloc (.cells (Array.replicate 32 (.int .u8 0)) 178)).heap[w.heap.size]? = some (.cells (Array.replicate 32 (.int .u8 0)) 178 (0, 0)) := heap_alloc_new (w.drewN nq) _
  have hsz : ((w.drewN nq).alloc (.cells (Array.replicate 32 (.int .u8 0)) 178)).heap.size = w.heap.size + 1 := by simp
  rw [zeros32]
  generalize hW : (w.drewN nq).alloc (.cells (Array.replicate 32 (.int .u8 0)) 178) = W at *
  clear hW
  rw [show (64 - (64 - s)) = s from by omega, Hwr.out, show (-126 - (64 - (64 - (s : Int))) - 23) = u - (s : Int) from by have := hu.out; omega, ← Hs.out]
  refine (HS.out W (hG.below (hg1.mono hB)) (by omega)).mono ?_
  rintro e' w1 ⟨rfl, hb1⟩
  have hgs1 : w1.heap[w.heap.size]? = some (.cells (Array.replicate 32 (.int .u8 0)) 178 (0, 0)) := (hb1.block _ (by omega)).trans hgs
  have hg2 : Below w.heap.size w w1 := hg1.trans (hb1.mono (by omega))
  have hG1 : Good B w1 := hG.below (hg2.mono hB)
  have HG1 := Lib.hid hgs1
  clear hgs hgs1 hb1 hsz hg1
  go_wp2_with fail
  go_region_with (first | (go_at_call 108; refine (Tryz.internal_strconv_numDigits d hd hd2 _ (by exact hG1.u64p)).mono ?_; rintro e' w' ⟨rfl, hw'⟩; rw [hw', Hnd.out]; clear hw' w') | (go_at_call 174; refine (setDigits_any w.heap.size d nd p _ (by exact HG1.out) hd hd2 Hnd.out hndl hnd1 (by omega) (by omega)).mono ?_; rintro e' w2 ⟨rfl, hD⟩))
  have hz1 := nzAt_pos (digs d) (digs_first d hd) nd hnd1
  have hz2 := nzAt_le (digs d) nd
  have hg3 : Below w.heap.size w w2 := hg2.trans ⟨hD.1.os, hD.1.tape, hD.1.output, hD.1.size, fun k hk => hD.1.block k (Nat.lt_of_lt_of_le hk hg2.size) (by intro h; injection h with h; omega)⟩
  have Hg3 := Lib.hid hg3
  have HD := Lib.hid hD
  clear hD hg3
  obtain ⟨nz, hnz⟩ : ∃ nz, nzAt (digs d) nd = nz := ⟨_, rfl⟩
  have Hnz := Lib.hid hnz
  rw [hnz] at hz1 hz2 ⊢
  clear hnz
  go_wp2_with fail
  rw [show max ((nz : Int) - 1) 0 = (nz : Int) - 1 from by omega, ← Hnz.out]
  refine (efg_any neg _ w2 v n xs w.heap.size d nd p (hO.later Hg3.out) hn HD.out Hnd.out hndl hd hp0 hp1 _ rfl).mono ?_
  rintro e' w3 ⟨v3, rfl, hO3⟩
  go_wp2_with fail
  go_ret
  exact ⟨_, rfl, hO3.rebase Hg3.out hO.base⟩

set_option maxRecDepth 100000 in
set_option maxHeartbeats 800000 in
theorem ftoa64_zero {B : Nat} (b : Nat) (neg : Bool) (v : Value) (n : Nat) (xs : List Value) (w : World) (hO : Out B w w v n xs) (hn : n ≤ 1000) (hb : b < 18446744073709551616)
    (he : bits .and .i64 ((b : Int) / 4503599627370496) 2047 = 0) (hneg : ((b : Int) / 9223372036854775808 != 0) = neg) (hm : bits .and .u64 (b : Int) 4503599627370495 = 0) :
    Calls Tryz.prog 145 #[v, .float .f64 b, .int .u8 101, .int .i64 (-1)] w (Appended B w n xs (signOf neg ++ [48, 101, 43, 48, 48])) := by
  have hfb := run_f64bits b
  go_enter Tryz.func145, Tryz.ntmps145
  go_wp2_with fail
  go_quiet (fail)
  go_wp2_with fail
  refine (efg_zero neg _ v n xs (hO.later (below_drewN (Below.refl _ _) _)) hn).mono ?_
  rintro e' w3 ⟨v3, rfl, hO3⟩
  go_wp2_with fail
  go_ret
  exact ⟨_, rfl, hO3.rebase (below_drewN (Below.refl _ _) _) hO.base⟩

set_option maxRecDepth 100000 in
set_option maxHeartbeats 800000 in
theorem ftoa32_zero {B : Nat} (b : Nat) (neg : Bool) (v : Value) (n : Nat) (xs : List Value) (w : World) (hO : Out B w w v n xs) (hn : n ≤ 1000) (hb : b < 4294967296)
    (he : bits .and .i64 ((b : Int) / 8388608) 255 = 0) (hneg : ((b : Int) / 2147483648 != 0) = neg) (hm : bits .and .u64 (b : Int) 8388607 = 0) :
    Calls Tryz.prog 144 #[v, .float .f32 b, .int .u8 101, .int .i64 (-1)] w (Appended B w n xs (signOf neg ++ [48, 101, 43, 48, 48])) := by
  have hfb := run_f32bits b
  go_enter Tryz.func144, Tryz.ntmps144
  go_wp2_with fail
  go_quiet (fail)
  go_wp2_with fail
  refine (efg_zero neg _ v n xs (hO.later (below_drewN (Below.refl _ _) _)) hn).mono ?_
  rintro e' w3 ⟨v3, rfl, hO3⟩
  go_wp2_with fail
  go_ret
  exact ⟨_, rfl, hO3.rebase (below_drewN (Below.refl _ _) _) hO.base⟩
end Go.Proofs.YtdfodfflkmcgpaaGreatDoor
/- strconv.FormatFloat in the exponent form, of both widths: the text that ftoa lays out. -/
namespace Go.Proofs.YtdfodfflkmcgpaaGreatDoor
open Go.RowKit Go.Sort
set_option linter.unusedVariables false
theorem run_make24 (w : World) : (Instr.makeSlice 43 (.int .i64 0) (.int .i64 24)).run Tryz.prog w = .ok (.slice (some ⟨w.heap.size, 0, none⟩) 0 24) (w.alloc (.cells (Array.replicate 24 (.int .u8 0)) 5)) := by kernel_rfl
theorem own_bytes {w : World} {B n : Nat} {v : Value} {out : List Int} (h : w.ownsRow B 5 1 v n (out.map (Value.int .u8))) (hn : 0 < n) :
    ∃ g cap, v = .slice (some ⟨g, 0, none⟩) n cap ∧ ∀ i, i < n → w.cell? ⟨g, 0 + i, none⟩ = some (.int .u8 (out.getD i 0)) := by
  have hf : ∃ g cap, v = .slice (some ⟨g, 0, none⟩) n cap := by
    rcases h.2 with ⟨_, h0⟩ | ⟨g, cap, cur, hv, _⟩
    · omega
    · exact ⟨g, cap, hv⟩
  obtain ⟨g, cap, hv⟩ := hf
  refine ⟨g, cap, hv, fun i hi => ?_⟩
  have hl : out.length = n := by have := h.1; simpa using this
  have := h.cells (g := g) (by rw [hv]; rfl) i (.int .u8 (out.getD i 0)) (by rw [List.getElem?_map, List.getD_eq_getElem?_getD, List.getElem?_eq_getElem (by omega)]; rfl)
  rwa [Lib.add_plain] at this
theorem fresh_out {B : Nat} (w : World) (hB : B ≤ w.heap.size) : Out B (w.alloc (.cells (Array.replicate 24 (.int .u8 0)) 5)) (w.alloc (.cells (Array.replicate 24 (.int .u8 0)) 5)) (.slice (some ⟨w.heap.size, 0, none⟩) 0 24) 0 [] :=
  ⟨World.ownsRow_made w _ 24 hB (by unfold maxLen; omega) (by simp), Below.refl _ _, Keep.refl _, by simp; omega⟩
theorem under9 : Tryz.prog.underlying 9 = some .string := by kernel_rfl
set_option maxRecDepth 100000 in
set_option maxHeartbeats 400000 in
theorem format64_any {B : Nat} (b : Nat) (w : World) (hG : Good B w) (hB : B ≤ w.heap.size) (out : List Int) (ho : 0 < out.length)
   (H : ∀ (v : Value) (W : World), Good B W → Out B W W v 0 [] → Calls Tryz.prog 145 #[v, .float .f64 b, .int .u8 101, .int .i64 (-1)] W (Appended B W 0 [] out)) :
    Calls Tryz.prog 112 #[.float .f64 b, .int .u8 101, .int .i64 (-1), .int .i64 64] w fun e w' => e = .returned (.string (strOfNums out)) ∧ Below B w w' := by
  have HH := Lib.hid H
  clear H
  have hmk := run_make24
  have hmax : max (3 : Int) 24 = 24 := rfl
  go_enter Tryz.func112, Tryz.ntmps112
  go_wp2_with fail
  refine (HH.out _ _ (hG.alloc hB _) (fresh_out w hB)).mono ?_
  rintro e' w1 ⟨v1, rfl, hO1⟩
  have hb1 : Below B w w1 := ((Below.refl _ _).alloc hB _).trans hO1.below
  have hown := hO1.own
  simp only [List.nil_append, Nat.zero_add] at hown
  obtain ⟨g, cap, hv, hcell⟩ := own_bytes hown ho
  have hcv := run_convert_bytes_arg (P := Tryz.prog) w1 43 5 Tryz.underlying43 Tryz.underlying5 g 0 out.length cap out rfl hcell 9 under9
  rw [hv]
  clear hcell hown hO1 hv
  go_wp2_with fail
  go_ret
  exact ⟨rfl, hb1⟩
set_option maxRecDepth 100000 in
set_option maxHeartbeats 400000 in
theorem format32_any {B : Nat} (b x : Nat) (w : World) (hG : Good B w) (hB : B ≤ w.heap.size) (out : List Int) (ho : 0 < out.length)
   (hx : ∀ w, (convert 59 60 (.float .f64 x)).run Tryz.prog w = .ok (.float .f32 b) w)
   (H : ∀ (v : Value) (W : World), Good B W → Out B W W v 0 [] → Calls Tryz.prog 144 #[v, .float .f32 b, .int .u8 101, .int .i64 (-1)] W (Appended B W 0 [] out)) :
    Calls Tryz.prog 112 #[.float .f64 x, .int .u8 101, .int .i64 (-1), .int .i64 32] w fun e w' => e = .returned (.string (strOfNums out)) ∧ Below B w w' := by
  have HH := Lib.hid H
  clear H
  have hmk := run_make24
  have hmax : max (3 : Int) 24 = 24 := rfl
  go_enter Tryz.func112, Tryz.ntmps112
  go_wp2_with fail
  refine (HH.out _ _ (hG.alloc hB _) (fresh_out w hB)).mono ?_
  rintro e' w1 ⟨v1, rfl, hO1⟩
  have hb1 : Below B w w1 := ((Below.refl _ _).alloc hB _).trans hO1.below
  have hown := hO1.own
  simp only [List.nil_append, Nat.zero_add] at hown
  obtain ⟨g, cap, hv, hcell⟩ := own_bytes hown ho
  have hcv := run_convert_bytes_arg (P := Tryz.prog) w1 43 5 Tryz.underlying43 Tryz.underlying5 g 0 out.length cap out rfl hcell 9 under9
  rw [hv]
  clear hcell hown hO1 hv
  go_wp2_with fail
  go_ret
  exact ⟨rfl, hb1⟩
/-- the public call hands on. -/
theorem format_public {B : Nat} (x : Nat) (wd : Int) (s : ByteArray) (w : World) (h : Calls Tryz.prog 112 #[.float .f64 x, .int .u8 101, .int .i64 (-1), .int .i64 wd] w fun e w' => e = .returned (.string s) ∧ Below B w w') :
    Calls Tryz.prog 74 #[.float .f64 x, .int .u8 101, .int .i64 (-1), .int .i64 wd] w fun e w' => e = .returned (.string s) ∧ Below B w w' := by
  have HH := Lib.hid h
  clear h
  go_enter Tryz.func74, Tryz.ntmps74
  go_wp2_with fail
  refine HH.out.mono ?_
  rintro e' w1 ⟨rfl, hR⟩
  go_wp2_with fail
  go_ret
  exact ⟨rfl, hR⟩
end Go.Proofs.YtdfodfflkmcgpaaGreatDoor
/- Digits of which the first has a power of ten, laid out: nums.laid. -/
namespace Go.Proofs.YtdfodfflkmcgpaaGreatDoor
open Go.RowKit Go.Sort
set_option linter.unusedVariables false
theorem gr_below {B : Nat} {w w' : World} (hB : B ≤ w.heap.size) (h : ∃ k os, w' = grow (w.drewN k) os) : Below B w w' := by
  obtain ⟨k, os, rfl⟩ := h
  refine ⟨rfl, rfl, rfl, by simp [grow], fun i hi => ?_⟩
  show ((w.heap ++ os)[i]? : Option Obj) = w.heap[i]?
  rw [Array.getElem?_append_left (by omega)]
theorem repeat_to {B : Nat} (s : ByteArray) (c : Int) (w : World) (hB : B ≤ w.heap.size) (h0 : 0 ≤ c) (h1 : c ≤ 1000) (hs : s.size ≤ 1) :
    Calls Tryz.prog 68 #[.string s, .int .i64 c] w fun e w' => ∃ r : ByteArray, e = .returned (.string r) ∧ Hid (r.data.toList = Lib.repeatL s.data.toList c.toNat) ∧ r.size ≤ 1000 ∧ Below B w w' := by
  obtain ⟨c, rfl⟩ := Int.eq_ofNat_of_zero_le h0
  have hm : s.size * c ≤ 1 * 1000 := Nat.mul_le_mul hs (by omega)
  refine (Tryz.strings_Repeat s c w (by omega) (by omega)).mono fun e w' h => ⟨_, h.1, Lib.hid (by simp), ?_, h.2.mono hB⟩
  show (Lib.repeatL s.data.toList c).toArray.size ≤ 1000
  rw [List.size_toArray, Lib.repeatL_length, Array.length_toList, Nat.mul_comm]
  exact hm
theorem itoa_to {B : Nat} (n : Int) (w : World) (hG : Good B w) (hB : B ≤ w.heap.size) (h0 : -1000 ≤ n) (h1 : n ≤ 1000) :
    Calls Tryz.prog 115 #[.int .i64 n] w fun e w' => ∃ r : ByteArray, e = .returned (.string r) ∧ Hid (r.data.toList = Lib.itoa n) ∧ r.size ≤ 21 ∧ Below B w w' := by
  refine (Tryz.strconv_Itoa n (by omega) (by omega) w hG.u64p).mono fun e w' h => ⟨_, h.1, Lib.hid (by simp), ?_, gr_below hB h.2⟩
  show (Lib.itoa n).toArray.size ≤ 21
  rw [List.size_toArray]
  exact Lib.itoa_length_le n (by omega) (by omega)
theorem ret_str {a b : ByteArray} (h : a.data.toList = b.data.toList) : Ending.returned (.string a) = .returned (.string b) := by
  obtain ⟨⟨a⟩⟩ := a
  obtain ⟨⟨b⟩⟩ := b
  simp at h
  rw [h]
/-- digits, of which the first has a power of ten: how they are laid out. -/
def laidL (d : List UInt8) (x : Int) : List UInt8 :=
  if (d.length : Int) - 1 ≤ x ∧ x ≤ 20 then d ++ Lib.repeatL [48] (x - d.length + 1).toNat
  else if 0 ≤ x ∧ x ≤ 20 then d.take (x + 1).toNat ++ [46] ++ d.drop (x + 1).toNat
  else if x < 0 ∧ -6 ≤ x then [48, 46] ++ Lib.repeatL [48] (-x - 1).toNat ++ d
  else (if 1 < d.length then d.take 1 ++ [46] ++ d.drop 1 else d) ++ [101] ++ (if x < 0 then [45] ++ Lib.itoa (-x) else [43] ++ Lib.itoa x)
theorem size_list (d : ByteArray) : d.data.toList.length = d.size := by rw [ByteArray.size, Array.length_toList]
set_option maxRecDepth 100000 in
set_option maxHeartbeats 400000 in
theorem laid_1 {B : Nat} (d : ByteArray) (x : Int) (w : World) (hG : Good B w) (hB : B ≤ w.heap.size) (hd0 : 1 ≤ d.size) (hd1 : d.size ≤ 30) (h1 : (d.size : Int) - 1 ≤ x) (h2 : x ≤ 20) :
    Calls Tryz.prog 76 #[.string d, .int .i64 x] w fun e w' => e = .returned (.string ⟨(laidL d.data.toList x).toArray⟩) ∧ Below B w w' := by
  go_enter Tryz.func76, Tryz.ntmps76
  go_wp2_with fail
  refine (repeat_to _ _ _ hB (by omega) (by omega) (by decide)).mono ?_
  rintro e' w1 ⟨r, rfl, hr, hrs, hb1⟩
  go_wp2_with fail
  go_ret
  refine ⟨ret_str ?_, hb1⟩
  unfold laidL
  rw [size_list, if_pos ⟨h1, h2⟩]
  simp [hr.out]
set_option maxRecDepth 100000 in
set_option maxHeartbeats 400000 in
theorem laid_2 {B : Nat} (d : ByteArray) (x : Int) (w : World) (hG : Good B w) (hB : B ≤ w.heap.size) (hd0 : 1 ≤ d.size) (hd1 : d.size ≤ 30) (h1 : x < (d.size : Int) - 1) (h2 : 0 ≤ x) (h3 : x ≤ 20) :
    Calls Tryz.prog 76 #[.string d, .int .i64 x] w fun e w' => e = .returned (.string ⟨(laidL d.data.toList x).toArray⟩) ∧ Below B w w' := by
  go_enter Tryz.func76, Tryz.ntmps76
  go_wp2_with fail
  go_quiet (fail)
  go_wp2_with fail
  go_ret
  refine ⟨ret_str ?_, below_drewN (Below.refl _ _) _⟩
  unfold laidL
  rw [size_list, if_neg (by omega), if_pos ⟨h2, h3⟩]
  simp
  rw [List.take_of_length_le (by rw [List.length_drop, size_list]; exact Nat.le_refl _)]
set_option maxRecDepth 100000 in
set_option maxHeartbeats 400000 in
theorem laid_3 {B : Nat} (d : ByteArray) (x : Int) (w : World) (hG : Good B w) (hB : B ≤ w.heap.size) (hd0 : 1 ≤ d.size) (hd1 : d.size ≤ 30) (h1 : x < (d.size : Int) - 1) (h2 : x < 0) (h3 : -6 ≤ x) :
    Calls Tryz.prog 76 #[.string d, .int .i64 x] w fun e w' => e = .returned (.string ⟨(laidL d.data.toList x).toArray⟩) ∧ Below B w w' := by
  go_enter Tryz.func76, Tryz.ntmps76
  go_wp2_with fail
  refine (repeat_to _ _ _ hB (by omega) (by omega) (by decide)).mono ?_
  rintro e' w1 ⟨r, rfl, hr, hrs, hb1⟩
  go_wp2_with fail
  go_ret
  refine ⟨ret_str ?_, hb1⟩
  unfold laidL
  rw [size_list, if_neg (by omega), if_neg (by omega), if_pos ⟨h2, h3⟩]
  simp [hr.out]
set_option maxRecDepth 100000 in
set_option maxHeartbeats 800000 in
theorem laid_4 {B : Nat} (d : ByteArray) (x : Int) (w : World) (hG : Good B w) (hB : B ≤ w.heap.size) (hd0 : 1 ≤ d.size) (hd1 : d.size ≤ 30) (hx0 : -400 ≤ x) (hx1 : x ≤ 400) (h1 : x < -6 ∨ 20 < x) :
    Calls Tryz.prog 76 #[.string d, .int .i64 x] w fun e w' => e = .returned (.string ⟨(laidL d.data.toList x).toArray⟩) ∧ Below B w w' := by
  have hc : (x < 0 ∧ x < (d.size : Int) - 1 ∧ x < -6) ∨ (0 ≤ x ∧ (d.size : Int) - 1 ≤ x ∧ 20 < x) ∨ (0 ≤ x ∧ x < (d.size : Int) - 1 ∧ 20 < x) := by omega
  have h4 : ¬ (((d.size : Int) - 1 ≤ x ∧ x ≤ 20)) := by omega
  have h5 : ¬ (0 ≤ x ∧ x ≤ 20) := by omega
  have h6 : ¬ (x < 0 ∧ -6 ≤ x) := by omega
  have hl : laidL d.data.toList x = (if 1 < d.size then d.data.toList.take 1 ++ [46] ++ d.data.toList.drop 1 else d.data.toList) ++ [101] ++ (if x < 0 then [45] ++ Lib.itoa (-x) else [43] ++ Lib.itoa x) := by
    unfold laidL
    rw [size_list, if_neg h4, if_neg h5, if_neg h6]
  have Hl := Lib.hid hl
  clear hl h4 h5 h6
  rcases hc with ⟨h1, h2, h3⟩ | ⟨h1, h2, h3⟩ | ⟨h1, h2, h3⟩
  all_goals
    by_cases hs : 1 < d.size
    all_goals
      go_enter Tryz.func76, Tryz.ntmps76
      go_wp2_with fail
      try go_quiet (fail)
      go_wp2_with fail
  all_goals
    refine (itoa_to _ _ (by first | exact hG | exact hG.drewN _) (by first | exact hB | (simp; exact hB)) (by omega) (by omega)).mono ?_
    rintro e' w1 ⟨r, rfl, hr, hrs, hb1⟩
    go_wp2_with fail
    go_ret
    refine ⟨ret_str ?_, by first | exact hb1 | exact (below_drewN (Below.refl _ _) _).trans hb1⟩
    have htk : List.take (d.size - 1) d.data.toList.tail = d.data.toList.tail := List.take_of_length_le (by rw [List.length_tail, size_list]; exact Nat.le_refl _)
    have h1' : ¬ (0 ≤ x) ∨ ¬ (x < 0) := by omega
    first
      | (have hx : ¬ x < 0 := by omega
         rw [Hl.out, if_neg hx]
         simp [hr.out, hs, htk])
      | (rw [Hl.out, if_pos (by omega : x < 0)]
         simp [hr.out, hs, htk])
theorem laid_any {B : Nat} (d : ByteArray) (x : Int) (w : World) (hG : Good B w) (hB : B ≤ w.heap.size) (hd0 : 1 ≤ d.size) (hd1 : d.size ≤ 30) (hx0 : -400 ≤ x) (hx1 : x ≤ 400) :
    Calls Tryz.prog 76 #[.string d, .int .i64 x] w fun e w' => e = .returned (.string ⟨(laidL d.data.toList x).toArray⟩) ∧ Below B w w' := by
  by_cases h : x < -6 ∨ 20 < x
  · exact laid_4 d x w hG hB hd0 hd1 hx0 hx1 h
  · by_cases h1 : (d.size : Int) - 1 ≤ x
    · exact laid_1 d x w hG hB hd0 hd1 h1 (by omega)
    · by_cases h2 : 0 ≤ x
      · exact laid_2 d x w hG hB hd0 hd1 (by omega) h2 (by omega)
      · exact laid_3 d x w hG hB hd0 hd1 (by omega) (by omega) (by omega)
end Go.Proofs.YtdfodfflkmcgpaaGreatDoor
/- nums.floating: a floating number as a text, out of the library's exponent form. -/
namespace Go.Proofs.YtdfodfflkmcgpaaGreatDoor
open Go.RowKit Go.Sort
set_option linter.unusedVariables false
theorem unary_neg_float (k : FloatKind) (b : Nat) : Op.unary .neg (.float k b) = pure (.float k (Op.negFloat k b)) := rfl
attribute [local go_sem] unary_neg_float
theorem cut_to {B : Nat} (s : ByteArray) (sep : UInt8) (w : World) (hG : Good B w) (hs : s.size < 4000000) (a b : List UInt8) (k : Bool) (hc : Lib.cut s.data.toList [sep] = (a, b, k)) :
    Calls Tryz.prog 65 #[.string s, .string ⟨#[sep]⟩] w fun e w' => ∃ sa sb : ByteArray, e = .returned (.tuple #[.string sa, .string sb, .bool k]) ∧ Hid (sa.data.toList = a) ∧ Hid (sb.data.toList = b) ∧ Below B w w' := by
  obtain ⟨m, hm⟩ := hG.maxLen
  refine (Tryz.strings_Cut s ⟨#[sep]⟩ m w (by omega) hm).mono fun e w' h => ?_
  obtain ⟨h1, n, h2⟩ := h
  have e1 : (ByteArray.mk #[sep]).data.toList = [sep] := rfl
  rw [e1, hc] at h1
  exact ⟨⟨a.toArray⟩, ⟨b.toArray⟩, h1, Lib.hid (by simp), Lib.hid (by simp), by rw [h2]; exact below_drewN (Below.refl _ _) n⟩
theorem replace_to {B : Nat} (s : ByteArray) (c : UInt8) (n : Int) (w : World) (hG : Good B w) (hB : B ≤ w.heap.size) (hs : s.size < 4000000) :
    Calls Tryz.prog 77 #[.string s, .string ⟨#[c]⟩, .string ⟨#[]⟩, .int .i64 n] w fun e w' => ∃ r : ByteArray, e = .returned (.string r) ∧ Hid (r.data.toList = Lib.replace s.data.toList [c] [] n) ∧ Below B w w' := by
  obtain ⟨m, hm⟩ := hG.maxLen
  refine (Tryz.strings_Replace s ⟨#[c]⟩ ⟨#[]⟩ n m w (by omega) hm (Nat.le_refl 1) (by rw [show (ByteArray.mk #[]).size = 0 from rfl, Nat.mul_zero]; omega)).mono fun e w' h => ?_
  exact ⟨_, h.1, Lib.hid (by simp), h.2.mono hB⟩
theorem bw_below {B : Nat} {w w' : World} (hB : B ≤ w.heap.size) (t : ByteArray) (h : w' = Lib.bytesWorld w 5 t) : Below B w w' := by
  subst h
  exact Joins.below_bytesWorld B w 5 t hB
theorem atoi_to {B : Nat} (s : ByteArray) (n : Int) (w : World) (hB : B ≤ w.heap.size) (hs : s.size ≤ 18) (h : Lib.atoi s.data.toList = some n) :
    Calls Tryz.prog 75 #[.string s] w fun e w' => e = .returned (.tuple #[.int .i64 n, .nilIface]) ∧ Below B w w' :=
  (Tryz.strconv_Atoi s n hs h w).mono fun e w' ⟨h1, t, h2⟩ => ⟨h1, bw_below hB t h2⟩
theorem laidL_length (D : List UInt8) (x : Int) (hD : D.length ≤ 30) (h0 : -400 ≤ x) (h1 : x ≤ 400) : (laidL D x).length ≤ 1000 := by
  have i1 := Lib.itoa_length_le x (by omega) (by omega)
  have i2 := Lib.itoa_length_le (-x) (by omega) (by omega)
  unfold laidL
  split
  · simp [Lib.repeatL_length]; omega
  · split
    · simp; omega
    · split
      · simp [Lib.repeatL_length]; omega
      · simp only [List.length_append]
        split <;> split <;> simp <;> omega

set_option maxRecDepth 100000 in
set_option maxHeartbeats 800000 in
/-- a number that is finite and not 0: the parts of the exponent form, laid out anew. -/
theorem floating_fin {B : Nat} (b : Nat) (wd : Int) (w : World) (hG : Good B w) (hB : B ≤ w.heap.size) (S S' : ByteArray) (hS : 1 ≤ S.size) (hS2 : S.size ≤ 40) (neg : Bool)
   (c1 : (FloatKind.f64.format.order b b != some Ordering.eq) = false) (c2 : (FloatKind.f64.format.order b 9218868437227405311 == some Ordering.gt) = false) (c3 : (FloatKind.f64.format.order (Op.negFloat .f64 b) 9218868437227405311 == some Ordering.gt) = false) (c4 : (FloatKind.f64.format.order b 0 == some Ordering.eq) = false)
   (HF : Hid (∀ W, Good B W → B ≤ W.heap.size → Calls Tryz.prog 74 #[.float .f64 b, .int .u8 101, .int .i64 (-1), .int .i64 wd] W fun e w' => e = .returned (.string S) ∧ Below B W w'))
   (hneg : ((S[0].toNat : Int) == 45) = neg) (hS' : Hid (S' = if neg then S.extract 1 S.size else S)) (m e : List UInt8) (at_ : Int) (hcut : Hid (Lib.cut S'.data.toList [101] = (m, e, true))) (he : Hid (e.length ≤ 18)) (hat : Hid (Lib.atoi e = some at_)) (hm : Hid (m.length ≤ 30)) (ha0 : -400 ≤ at_) (ha1 : at_ ≤ 400)
   (D : List UInt8) (hD : Hid (Lib.replace m [46] [] 1 = D)) (hD0 : Hid (1 ≤ D.length ∧ D.length ≤ 30)) :
    Calls Tryz.prog 40 #[.float .f64 b, .int .i64 wd] w fun e w' => e = .returned (.string ⟨((if neg then [45] else []) ++ laidL D at_).toArray⟩) ∧ Below B w w' := by
  have hS3 : S'.size ≤ 40 := by
    rw [hS'.out]; cases neg
    · exact hS2
    · show (S.extract 1 S.size).size ≤ 40
      rw [ByteArray.size_extract]; omega
  cases neg
  · have hSS : S' = S := by have := hS'.out; simpa using this
    subst hSS
    go_enter Tryz.func40, Tryz.ntmps40
    go_wp2_with (first | (go_at_call 72; go_in) | (go_at_call 73; go_in))
    refine (HF.out _ hG hB).mono ?_
    rintro e' w1 ⟨rfl, hb1⟩
    have hG1 := hG.below hb1
    have hB1 := Nat.le_trans hB hb1.size
    go_wp2_with fail
    refine (cut_to _ _ _ hG1 (by omega) m e true hcut.out).mono ?_
    rintro e' w2 ⟨sa, sb, rfl, hsa, hsb, hb2⟩
    have hG2 := hG1.below hb2
    have hB2 := Nat.le_trans hB1 hb2.size
    go_wp2_with fail
    refine (atoi_to sb at_ w2 hB2 (by rw [← size_list, hsb.out]; exact he.out) (by rw [hsb.out]; exact hat.out)).mono ?_
    rintro e' w3 ⟨rfl, hb3⟩
    have hG3 := hG2.below hb3
    have hB3 := Nat.le_trans hB2 hb3.size
    go_wp2_with fail
    refine (replace_to sa 46 1 w3 hG3 hB3 (by have := hm.out; rw [← hsa.out, size_list] at this; omega)).mono ?_
    rintro e' w4 ⟨r, rfl, hr, hb4⟩
    have hG4 := hG3.below hb4
    have hB4 := Nat.le_trans hB3 hb4.size
    have hrD : r.data.toList = D := by rw [hr.out, hsa.out]; exact hD.out
    have HrD := Lib.hid hrD
    have hrs : r.size = D.length := by rw [← hrD, size_list]
    have hr0 : 1 ≤ r.size := by rw [hrs]; exact hD0.out.1
    have hr1 : r.size ≤ 30 := by rw [hrs]; exact hD0.out.2
    clear hrD hrs
    go_wp2_with fail
    refine (laid_any r at_ w4 hG4 hB4 hr0 hr1 ha0 ha1).mono ?_
    rintro e' w5 ⟨rfl, hb5⟩
    rw [HrD.out]
    have hl : (laidL D at_).length ≤ 1000 := laidL_length D at_ hD0.out.2 ha0 ha1
    have hl2 : (ByteArray.mk (laidL D at_).toArray).size ≤ 1000 := by show (laidL D at_).toArray.size ≤ 1000; rw [List.size_toArray]; exact hl
    obtain ⟨L, hL⟩ : ∃ L : ByteArray, L = ⟨(laidL D at_).toArray⟩ := ⟨_, rfl⟩
    have hLd : L.data.toList = laidL D at_ := by rw [hL]
    rw [← hL] at hl2 ⊢
    have HLd := Lib.hid hLd
    clear hL hLd
    go_wp2_with fail
    go_ret
    exact ⟨ret_str (by simp [HLd.out]), (((hb1.trans hb2).trans hb3).trans hb4).trans hb5⟩
  · have hSS : S' = S.extract 1 S.size := by have := hS'.out; simpa using this
    subst hSS
    go_enter Tryz.func40, Tryz.ntmps40
    go_wp2_with (first | (go_at_call 72; go_in) | (go_at_call 73; go_in))
    refine (HF.out _ hG hB).mono ?_
    rintro e' w1 ⟨rfl, hb1⟩
    go_wp2_with fail
    go_quiet (fail)
    have hG1 := hG.below (below_drewN hb1 nq)
    have hB1 : B ≤ (w1.drewN nq).heap.size := Nat.le_trans hB hb1.size
    go_wp2_with fail
    refine (cut_to _ _ _ hG1 (by omega) m e true hcut.out).mono ?_
    rintro e' w2 ⟨sa, sb, rfl, hsa, hsb, hb2⟩
    have hG2 := hG1.below hb2
    have hB2 := Nat.le_trans hB1 hb2.size
    go_wp2_with fail
    refine (atoi_to sb at_ w2 hB2 (by rw [← size_list, hsb.out]; exact he.out) (by rw [hsb.out]; exact hat.out)).mono ?_
    rintro e' w3 ⟨rfl, hb3⟩
    have hG3 := hG2.below hb3
    have hB3 := Nat.le_trans hB2 hb3.size
    go_wp2_with fail
    refine (replace_to sa 46 1 w3 hG3 hB3 (by have := hm.out; rw [← hsa.out, size_list] at this; omega)).mono ?_
    rintro e' w4 ⟨r, rfl, hr, hb4⟩
    have hG4 := hG3.below hb4
    have hB4 := Nat.le_trans hB3 hb4.size
    have hrD : r.data.toList = D := by rw [hr.out, hsa.out]; exact hD.out
    have HrD := Lib.hid hrD
    have hrs : r.size = D.length := by rw [← hrD, size_list]
    have hr0 : 1 ≤ r.size := by rw [hrs]; exact hD0.out.1
    have hr1 : r.size ≤ 30 := by rw [hrs]; exact hD0.out.2
    clear hrD hrs
    go_wp2_with fail
    refine (laid_any r at_ w4 hG4 hB4 hr0 hr1 ha0 ha1).mono ?_
    rintro e' w5 ⟨rfl, hb5⟩
    rw [HrD.out]
    have hl : (laidL D at_).length ≤ 1000 := laidL_length D at_ hD0.out.2 ha0 ha1
    have hl2 : (ByteArray.mk (laidL D at_).toArray).size ≤ 1000 := by show (laidL D at_).toArray.size ≤ 1000; rw [List.size_toArray]; exact hl
    obtain ⟨L, hL⟩ : ∃ L : ByteArray, L = ⟨(laidL D at_).toArray⟩ := ⟨_, rfl⟩
    have hLd : L.data.toList = laidL D at_ := by rw [hL]
    rw [← hL] at hl2 ⊢
    have HLd := Lib.hid hLd
    clear hL hLd
    go_wp2_with fail
    go_ret
    exact ⟨ret_str (by simp [HLd.out]), ((((below_drewN hb1 nq).trans hb2).trans hb3).trans hb4).trans hb5⟩

theorem floating_nan {B : Nat} (b : Nat) (wd : Int) (w : World) (c1 : (FloatKind.f64.format.order b b != some Ordering.eq) = true) :
    Calls Tryz.prog 40 #[.float .f64 b, .int .i64 wd] w fun e w' => e = .returned (.string ⟨#[78, 97, 78]⟩) ∧ Below B w w' := by
  go_enter Tryz.func40, Tryz.ntmps40
  go_wp2_with (first | (go_at_call 72; go_in) | (go_at_call 73; go_in))
  go_ret
  exact ⟨rfl, Below.refl _ _⟩
theorem floating_inf {B : Nat} (b : Nat) (wd : Int) (w : World) (c1 : (FloatKind.f64.format.order b b != some Ordering.eq) = false) (c2 : (FloatKind.f64.format.order b 9218868437227405311 == some Ordering.gt) = true) :
    Calls Tryz.prog 40 #[.float .f64 b, .int .i64 wd] w fun e w' => e = .returned (.string ⟨#[73, 110, 102, 105, 110, 105, 116, 121]⟩) ∧ Below B w w' := by
  go_enter Tryz.func40, Tryz.ntmps40
  go_wp2_with (first | (go_at_call 72; go_in) | (go_at_call 73; go_in))
  go_ret
  exact ⟨rfl, Below.refl _ _⟩
theorem floating_ninf {B : Nat} (b : Nat) (wd : Int) (w : World) (c1 : (FloatKind.f64.format.order b b != some Ordering.eq) = false) (c2 : (FloatKind.f64.format.order b 9218868437227405311 == some Ordering.gt) = false) (c3 : (FloatKind.f64.format.order (Op.negFloat .f64 b) 9218868437227405311 == some Ordering.gt) = true) :
    Calls Tryz.prog 40 #[.float .f64 b, .int .i64 wd] w fun e w' => e = .returned (.string ⟨#[45, 73, 110, 102, 105, 110, 105, 116, 121]⟩) ∧ Below B w w' := by
  go_enter Tryz.func40, Tryz.ntmps40
  go_wp2_with (first | (go_at_call 72; go_in) | (go_at_call 73; go_in))
  go_ret
  exact ⟨rfl, Below.refl _ _⟩
set_option maxRecDepth 100000 in
set_option maxHeartbeats 800000 in
theorem floating_zero {B : Nat} (b : Nat) (wd : Int) (w : World) (hG : Good B w) (hB : B ≤ w.heap.size) (S : ByteArray) (hS : 1 ≤ S.size) (hS2 : S.size ≤ 40) (neg : Bool)
   (c1 : (FloatKind.f64.format.order b b != some Ordering.eq) = false) (c2 : (FloatKind.f64.format.order b 9218868437227405311 == some Ordering.gt) = false) (c3 : (FloatKind.f64.format.order (Op.negFloat .f64 b) 9218868437227405311 == some Ordering.gt) = false) (c4 : (FloatKind.f64.format.order b 0 == some Ordering.eq) = true)
   (HF : Hid (∀ W, Good B W → B ≤ W.heap.size → Calls Tryz.prog 74 #[.float .f64 b, .int .u8 101, .int .i64 (-1), .int .i64 wd] W fun e w' => e = .returned (.string S) ∧ Below B W w'))
   (hneg : ((S[0].toNat : Int) == 45) = neg) :
    Calls Tryz.prog 40 #[.float .f64 b, .int .i64 wd] w fun e w' => e = .returned (.string ⟨(((if neg then [45] else []) ++ [48] : List UInt8)).toArray⟩) ∧ Below B w w' := by
  cases neg
  · go_enter Tryz.func40, Tryz.ntmps40
    go_wp2_with (first | (go_at_call 72; go_in) | (go_at_call 73; go_in))
    refine (HF.out _ hG hB).mono ?_
    rintro e' w1 ⟨rfl, hb1⟩
    go_wp2_with fail
    go_ret
    exact ⟨ret_str (by simp), hb1⟩
  · go_enter Tryz.func40, Tryz.ntmps40
    go_wp2_with (first | (go_at_call 72; go_in) | (go_at_call 73; go_in))
    refine (HF.out _ hG hB).mono ?_
    rintro e' w1 ⟨rfl, hb1⟩
    go_wp2_with fail
    go_quiet (fail)
    go_wp2_with fail
    go_ret
    exact ⟨ret_str (by simp), below_drewN hb1 _⟩
end Go.Proofs.YtdfodfflkmcgpaaGreatDoor
