/- A finite floating number in the exponent form: normal, subnormal, zero. -/
import Derived.Test.YtdfodfflkmcgpaaGreatDoorB1
import Derived.Deep.RegionWith
namespace Go.Proofs.YtdfodfflkmcgpaaGreatDoor
open Go.RowKit Go.Sort
set_option linter.unusedVariables false

set_option maxRecDepth 100000 in
set_option maxHeartbeats 800000 in
theorem ftoa64_nor {B : Nat} (b mant : Nat) (neg : Bool) (v : Value) (n : Nat) (xs : List Value) (w : World) (hG : Good B w) (hO : Out B w w v n xs) (hn : n ≤ 1000) (e m u : Int) (hb : b < 18446744073709551616)
    (he : bits .and .i64 ((b : Int) / 4503599627370496) 2047 = e) (hneg : ((b : Int) / 9223372036854775808 != 0) = neg) (hm : bits .and .u64 (b : Int) 4503599627370495 = m) (hM : bits .or .u64 m 4503599627370496 = (mant : Int)) (he2 : (e == 0) = false) (he3 : e < 2047) (he4 : 0 < e) (hu : Hid (u = e - 1075))
    (hm0 : 0 < mant) (hm1 : mant < 9007199254740992) (A : Bool) (hA : Hid (decide (mant = 4503599627370496 ∧ (-1074 : Int) < u) = A)) (hu0 : -1074 ≤ u) (hu1 : u ≤ 971) (hsub : mant < 4503599627370496 → u = -1074) (d : Nat) (p : Int) (hR : Hid (shortR mant u A = ((d : Int), p))) (hd : 1 ≤ d) (hd2 : d < 18446744073709551616) (hp0 : -350 ≤ p) (hp1 : p ≤ 350) :
    Calls Tryz.prog 145 #[v, .float .f64 b, .int .u8 101, .int .i64 (-1)] w (Appended B w n xs (signOf neg ++ textE d p)) := by
  have hfb := run_f64bits b
  have h40 : ((mant : Int) == 0) = false := by rw [beq_eq_false_iff_ne]; omega
  have hlen := fun w => len64_sh mant w (by omega) (by omega)
  obtain ⟨hs1, hs2, hs3⟩ := sh_bounds (x := mant) (by omega) (by omega)
  have hS : ∀ W, Good B W → B ≤ W.heap.size → Calls Tryz.prog 179 #[.int .u64 ((mant : Int) * 2 ^ sh mant), .int .i64 (u - sh mant)] W fun e' w' => e' = .returned (.tuple #[.int .u64 d, .int .i64 p]) ∧ Below W.heap.size W w' := by
    intro W hGW hBW
    have := short64_all mant u W hGW hBW (by omega) hm1 hu0 hu1 hsub
    rw [hA.out, hR.out] at this
    exact this
  have HS := Lib.hid hS
  have hwr : IntKind.u64.wrap ((mant : Int) * 2 ^ sh mant) = (mant : Int) * 2 ^ sh mant := by
    have : ((mant : Int) * 2 ^ sh mant) = ((mant * 2 ^ sh mant : Nat) : Int) := by simp
    rw [this, u64_wrap_id _ (by omega) (by omega)]
  obtain ⟨s, hs⟩ : ∃ s, sh mant = s := ⟨_, rfl⟩
  rw [hs] at hlen hwr hs1
  have Hwr := Lib.hid hwr
  have Hs := Lib.hid hs
  clear hs hS hwr hs2 hs3
  have HL := Lib.hid hlen
  have hB := hO.base
  obtain ⟨nd, hnd⟩ : ∃ nd, Lib.nDigits d = nd := ⟨_, rfl⟩
  have Hnd := Lib.hid hnd
  have hndl : nd ≤ 20 := by
    rw [← hnd]
    have := Lib.numDigits_eq d hd hd2
    rw [← this.1]
    have h2 := this.2
    split <;> omega
  have hnd1 : 1 ≤ nd := by rw [← hnd]; exact Lib.nDigits_pos d
  clear hlen hnd hsub
  have h41 : (((nd : Nat) : Int) - 1 < 0) = False := by simp; omega
  go_enter Tryz.func145, Tryz.ntmps145
  go_wp2_with fail
  go_quiet (fail)
  go_wp2_with fail
  refine (HL.out _).mono ?_
  rintro e' w' ⟨rfl, hw'⟩; rw [hw']; clear hw' w'
  go_wp2_with fail
  have hg1 : Below w.heap.size w ((w.drewN nq).alloc (.cells (Array.replicate 32 (.int .u8 0)) 178)) := (below_drewN (Below.refl _ _) nq).alloc (by simp) _
  have hgs : ((w.drewN nq).alloc (.cells (Array.replicate 32 (.int .u8 0)) 178)).heap[w.heap.size]? = some (.cells (Array.replicate 32 (.int .u8 0)) 178 (0, 0)) := heap_alloc_new (w.drewN nq) _
  have hsz : ((w.drewN nq).alloc (.cells (Array.replicate 32 (.int .u8 0)) 178)).heap.size = w.heap.size + 1 := by simp
  rw [zeros32]
  generalize hW : (w.drewN nq).alloc (.cells (Array.replicate 32 (.int .u8 0)) 178) = W at *
  clear hW
  rw [show (64 - (64 - s)) = s from by omega, Hwr.out, show (e + -1023 - (64 - (64 - (s : Int))) - 52) = u - (s : Int) from by have := hu.out; omega, ← Hs.out]
  refine (HS.out W (hG.below (hg1.mono hB)) (by omega)).mono ?_
  rintro e' w1 ⟨rfl, hb1⟩
  have hgs1 : w1.heap[w.heap.size]? = some (.cells (Array.replicate 32 (.int .u8 0)) 178 (0, 0)) := (hb1.block _ (by omega)).trans hgs
  have hg2 : Below w.heap.size w w1 := hg1.trans (hb1.mono (by omega))
  have hG1 : Good B w1 := hG.below (hg2.mono hB)
  have HG1 := Lib.hid hgs1
  clear hgs hgs1 hb1 hsz hg1
  go_wp2_with fail
  go_region_with (first | (go_at_call 108; refine (Tryz.internal_strconv_numDigits d hd hd2 _ (by exact hG1.u64p)).mono ?_; rintro e' w' ⟨rfl, hw'⟩; rw [hw', Hnd.out]; clear hw' w') | (go_at_call 174; refine (setDigits_any w.heap.size d nd p _ (by exact HG1.out) hd hd2 Hnd.out hndl hnd1 (by omega) (by omega)).mono ?_; rintro e' w2 ⟨rfl, hD⟩))
  have hz1 := nzAt_pos (digs d) (digs_first d hd) nd hnd1
  have hz2 := nzAt_le (digs d) nd
  have hg3 : Below w.heap.size w w2 := hg2.trans ⟨hD.1.os, hD.1.tape, hD.1.output, hD.1.size, fun k hk => hD.1.block k (Nat.lt_of_lt_of_le hk hg2.size) (by intro h; injection h with h; omega)⟩
  have Hg3 := Lib.hid hg3
  have HD := Lib.hid hD
  clear hD hg3
  obtain ⟨nz, hnz⟩ : ∃ nz, nzAt (digs d) nd = nz := ⟨_, rfl⟩
  have Hnz := Lib.hid hnz
  rw [hnz] at hz1 hz2 ⊢
  clear hnz
  go_wp2_with fail
  rw [show max ((nz : Int) - 1) 0 = (nz : Int) - 1 from by omega, ← Hnz.out]
  refine (efg_any neg _ w2 v n xs w.heap.size d nd p (hO.later Hg3.out) hn HD.out Hnd.out hndl hd hp0 hp1 _ rfl).mono ?_
  rintro e' w3 ⟨v3, rfl, hO3⟩
  go_wp2_with fail
  go_ret
  exact ⟨_, rfl, hO3.rebase Hg3.out hO.base⟩

set_option maxRecDepth 100000 in
set_option maxHeartbeats 800000 in
theorem ftoa64_sub {B : Nat} (b mant : Nat) (neg : Bool) (v : Value) (n : Nat) (xs : List Value) (w : World) (hG : Good B w) (hO : Out B w w v n xs) (hn : n ≤ 1000) (m u : Int) (hb : b < 18446744073709551616)
    (he : bits .and .i64 ((b : Int) / 4503599627370496) 2047 = 0) (hneg : ((b : Int) / 9223372036854775808 != 0) = neg) (hm : bits .and .u64 (b : Int) 4503599627370495 = m) (hM : m = (mant : Int)) (_he2 : True) (hu : Hid (u = -1074))
    (hm0 : 0 < mant) (hm1 : mant < 9007199254740992) (A : Bool) (hA : Hid (decide (mant = 4503599627370496 ∧ (-1074 : Int) < u) = A)) (hu0 : -1074 ≤ u) (hu1 : u ≤ 971) (hsub : mant < 4503599627370496 → u = -1074) (d : Nat) (p : Int) (hR : Hid (shortR mant u A = ((d : Int), p))) (hd : 1 ≤ d) (hd2 : d < 18446744073709551616) (hp0 : -350 ≤ p) (hp1 : p ≤ 350) :
    Calls Tryz.prog 145 #[v, .float .f64 b, .int .u8 101, .int .i64 (-1)] w (Appended B w n xs (signOf neg ++ textE d p)) := by
  have hfb := run_f64bits b
  have h40 : ((mant : Int) == 0) = false := by rw [beq_eq_false_iff_ne]; omega
  have hlen := fun w => len64_sh mant w (by omega) (by omega)
  obtain ⟨hs1, hs2, hs3⟩ := sh_bounds (x := mant) (by omega) (by omega)
  have hS : ∀ W, Good B W → B ≤ W.heap.size → Calls Tryz.prog 179 #[.int .u64 ((mant : Int) * 2 ^ sh mant), .int .i64 (u - sh mant)] W fun e' w' => e' = .returned (.tuple #[.int .u64 d, .int .i64 p]) ∧ Below W.heap.size W w' := by
    intro W hGW hBW
    have := short64_all mant u W hGW hBW (by omega) hm1 hu0 hu1 hsub
    rw [hA.out, hR.out] at this
    exact this
  have HS := Lib.hid hS
  have hwr : IntKind.u64.wrap ((mant : Int) * 2 ^ sh mant) = (mant : Int) * 2 ^ sh mant := by
    have : ((mant : Int) * 2 ^ sh mant) = ((mant * 2 ^ sh mant : Nat) : Int) := by simp
    rw [this, u64_wrap_id _ (by omega) (by omega)]
  obtain ⟨s, hs⟩ : ∃ s, sh mant = s := ⟨_, rfl⟩
  rw [hs] at hlen hwr hs1
  have Hwr := Lib.hid hwr
  have Hs := Lib.hid hs
  clear hs hS hwr hs2 hs3
  have HL := Lib.hid hlen
  have hB := hO.base
  obtain ⟨nd, hnd⟩ : ∃ nd, Lib.nDigits d = nd := ⟨_, rfl⟩
  have Hnd := Lib.hid hnd
  have hndl : nd ≤ 20 := by
    rw [← hnd]
    have := Lib.numDigits_eq d hd hd2
    rw [← this.1]
    have h2 := this.2
    split <;> omega
  have hnd1 : 1 ≤ nd := by rw [← hnd]; exact Lib.nDigits_pos d
  clear hlen hnd hsub
  have h41 : (((nd : Nat) : Int) - 1 < 0) = False := by simp; omega
  go_enter Tryz.func145, Tryz.ntmps145
  go_wp2_with fail
  go_quiet (fail)
  go_wp2_with fail
  refine (HL.out _).mono ?_
  rintro e' w' ⟨rfl, hw'⟩; rw [hw']; clear hw' w'
  go_wp2_with fail
  have hg1 : Below w.heap.size w ((w.drewN nq).alloc (.cells (Array.replicate 32 (.int .u8 0)) 178)) := (below_drewN (Below.refl _ _) nq).alloc (by simp) _
  have hgs : ((w.drewN nq).alloc (.cells (Array.replicate 32 (.int .u8 0)) 178)).heap[w.heap.size]? = some (.cells (Array.replicate 32 (.int .u8 0)) 178 (0, 0)) := heap_alloc_new (w.drewN nq) _
  have hsz : ((w.drewN nq).alloc (.cells (Array.replicate 32 (.int .u8 0)) 178)).heap.size = w.heap.size + 1 := by simp
  rw [zeros32]
  generalize hW : (w.drewN nq).alloc (.cells (Array.replicate 32 (.int .u8 0)) 178) = W at *
  clear hW
  rw [show (64 - (64 - s)) = s from by omega, Hwr.out, show (-1022 - (64 - (64 - (s : Int))) - 52) = u - (s : Int) from by have := hu.out; omega, ← Hs.out]
  refine (HS.out W (hG.below (hg1.mono hB)) (by omega)).mono ?_
  rintro e' w1 ⟨rfl, hb1⟩
  have hgs1 : w1.heap[w.heap.size]? = some (.cells (Array.replicate 32 (.int .u8 0)) 178 (0, 0)) := (hb1.block _ (by omega)).trans hgs
  have hg2 : Below w.heap.size w w1 := hg1.trans (hb1.mono (by omega))
  have hG1 : Good B w1 := hG.below (hg2.mono hB)
  have HG1 := Lib.hid hgs1
  clear hgs hgs1 hb1 hsz hg1
  go_wp2_with fail
  go_region_with (first | (go_at_call 108; refine (Tryz.internal_strconv_numDigits d hd hd2 _ (by exact hG1.u64p)).mono ?_; rintro e' w' ⟨rfl, hw'⟩; rw [hw', Hnd.out]; clear hw' w') | (go_at_call 174; refine (setDigits_any w.heap.size d nd p _ (by exact HG1.out) hd hd2 Hnd.out hndl hnd1 (by omega) (by omega)).mono ?_; rintro e' w2 ⟨rfl, hD⟩))
  have hz1 := nzAt_pos (digs d) (digs_first d hd) nd hnd1
  have hz2 := nzAt_le (digs d) nd
  have hg3 : Below w.heap.size w w2 := hg2.trans ⟨hD.1.os, hD.1.tape, hD.1.output, hD.1.size, fun k hk => hD.1.block k (Nat.lt_of_lt_of_le hk hg2.size) (by intro h; injection h with h; omega)⟩
  have Hg3 := Lib.hid hg3
  have HD := Lib.hid hD
  clear hD hg3
  obtain ⟨nz, hnz⟩ : ∃ nz, nzAt (digs d) nd = nz := ⟨_, rfl⟩
  have Hnz := Lib.hid hnz
  rw [hnz] at hz1 hz2 ⊢
  clear hnz
  go_wp2_with fail
  rw [show max ((nz : Int) - 1) 0 = (nz : Int) - 1 from by omega, ← Hnz.out]
  refine (efg_any neg _ w2 v n xs w.heap.size d nd p (hO.later Hg3.out) hn HD.out Hnd.out hndl hd hp0 hp1 _ rfl).mono ?_
  rintro e' w3 ⟨v3, rfl, hO3⟩
  go_wp2_with fail
  go_ret
  exact ⟨_, rfl, hO3.rebase Hg3.out hO.base⟩

set_option maxRecDepth 100000 in
set_option maxHeartbeats 800000 in
theorem ftoa32_nor {B : Nat} (b mant : Nat) (neg : Bool) (v : Value) (n : Nat) (xs : List Value) (w : World) (hG : Good B w) (hO : Out B w w v n xs) (hn : n ≤ 1000) (e m u : Int) (hb : b < 4294967296)
    (he : bits .and .i64 ((b : Int) / 8388608) 255 = e) (hneg : ((b : Int) / 2147483648 != 0) = neg) (hm : bits .and .u64 (b : Int) 8388607 = m) (hM : bits .or .u64 m 8388608 = (mant : Int)) (he2 : (e == 0) = false) (he3 : e < 255) (he4 : 0 < e) (hu : Hid (u = e - 150))
    (hm0 : 0 < mant) (hm1 : mant < 16777216) (A : Bool) (hA : Hid (decide (mant = 8388608 ∧ (-149 : Int) < u) = A)) (hu0 : -149 ≤ u) (hu1 : u ≤ 104) (hsub : mant < 8388608 → u = -149) (d : Nat) (p : Int) (hR : Hid (shortR mant u A = ((d : Int), p))) (hd : 1 ≤ d) (hd2 : d < 18446744073709551616) (hp0 : -350 ≤ p) (hp1 : p ≤ 350) :
    Calls Tryz.prog 144 #[v, .float .f32 b, .int .u8 101, .int .i64 (-1)] w (Appended B w n xs (signOf neg ++ textE d p)) := by
  have hfb := run_f32bits b
  have h40 : ((mant : Int) == 0) = false := by rw [beq_eq_false_iff_ne]; omega
  have hlen := fun w => len64_sh mant w (by omega) (by omega)
  obtain ⟨hs1, hs2, hs3⟩ := sh_bounds (x := mant) (by omega) (by omega)
  have hS : ∀ W, Good B W → B ≤ W.heap.size → Calls Tryz.prog 173 #[.int .u64 ((mant : Int) * 2 ^ sh mant), .int .i64 (u - sh mant)] W fun e' w' => e' = .returned (.tuple #[.int .u64 d, .int .i64 p]) ∧ Below W.heap.size W w' := by
    intro W hGW hBW
    have := short32_all mant u W hGW hBW (by omega) hm1 hu0 hu1 hsub
    rw [hA.out, hR.out] at this
    exact this
  have HS := Lib.hid hS
  have hwr : IntKind.u64.wrap ((mant : Int) * 2 ^ sh mant) = (mant : Int) * 2 ^ sh mant := by
    have : ((mant : Int) * 2 ^ sh mant) = ((mant * 2 ^ sh mant : Nat) : Int) := by simp
    rw [this, u64_wrap_id _ (by omega) (by omega)]
  obtain ⟨s, hs⟩ : ∃ s, sh mant = s := ⟨_, rfl⟩
  rw [hs] at hlen hwr hs1
  have Hwr := Lib.hid hwr
  have Hs := Lib.hid hs
  clear hs hS hwr hs2 hs3
  have HL := Lib.hid hlen
  have hB := hO.base
  obtain ⟨nd, hnd⟩ : ∃ nd, Lib.nDigits d = nd := ⟨_, rfl⟩
  have Hnd := Lib.hid hnd
  have hndl : nd ≤ 20 := by
    rw [← hnd]
    have := Lib.numDigits_eq d hd hd2
    rw [← this.1]
    have h2 := this.2
    split <;> omega
  have hnd1 : 1 ≤ nd := by rw [← hnd]; exact Lib.nDigits_pos d
  clear hlen hnd hsub
  have h41 : (((nd : Nat) : Int) - 1 < 0) = False := by simp; omega
  go_enter Tryz.func144, Tryz.ntmps144
  go_wp2_with fail
  go_quiet (fail)
  go_wp2_with fail
  refine (HL.out _).mono ?_
  rintro e' w' ⟨rfl, hw'⟩; rw [hw']; clear hw' w'
  go_wp2_with fail
  have hg1 : Below w.heap.size w ((w.drewN nq).alloc (.cells (Array.replicate 32 (.int .u8 0)) 178)) := (below_drewN (Below.refl _ _) nq).alloc (by simp) _
  have hgs : ((w.drewN nq).alloc (.cells (Array.replicate 32 (.int .u8 0)) 178)).heap[w.heap.size]? = some (.cells (Array.replicate 32 (.int .u8 0)) 178 (0, 0)) := heap_alloc_new (w.drewN nq) _
  have hsz : ((w.drewN nq).alloc (.cells (Array.replicate 32 (.int .u8 0)) 178)).heap.size = w.heap.size + 1 := by simp
  rw [zeros32]
  generalize hW : (w.drewN nq).alloc (.cells (Array.replicate 32 (.int .u8 0)) 178) = W at *
  clear hW
  rw [show (64 - (64 - s)) = s from by omega, Hwr.out, show (e + -127 - (64 - (64 - (s : Int))) - 23) = u - (s : Int) from by have := hu.out; omega, ← Hs.out]
  refine (HS.out W (hG.below (hg1.mono hB)) (by omega)).mono ?_
  rintro e' w1 ⟨rfl, hb1⟩
  have hgs1 : w1.heap[w.heap.size]? = some (.cells (Array.replicate 32 (.int .u8 0)) 178 (0, 0)) := (hb1.block _ (by omega)).trans hgs
  have hg2 : Below w.heap.size w w1 := hg1.trans (hb1.mono (by omega))
  have hG1 : Good B w1 := hG.below (hg2.mono hB)
  have HG1 := Lib.hid hgs1
  clear hgs hgs1 hb1 hsz hg1
  go_wp2_with fail
  go_region_with (first | (go_at_call 108; refine (Tryz.internal_strconv_numDigits d hd hd2 _ (by exact hG1.u64p)).mono ?_; rintro e' w' ⟨rfl, hw'⟩; rw [hw', Hnd.out]; clear hw' w') | (go_at_call 174; refine (setDigits_any w.heap.size d nd p _ (by exact HG1.out) hd hd2 Hnd.out hndl hnd1 (by omega) (by omega)).mono ?_; rintro e' w2 ⟨rfl, hD⟩))
  have hz1 := nzAt_pos (digs d) (digs_first d hd) nd hnd1
  have hz2 := nzAt_le (digs d) nd
  have hg3 : Below w.heap.size w w2 := hg2.trans ⟨hD.1.os, hD.1.tape, hD.1.output, hD.1.size, fun k hk => hD.1.block k (Nat.lt_of_lt_of_le hk hg2.size) (by intro h; injection h with h; omega)⟩
  have Hg3 := Lib.hid hg3
  have HD := Lib.hid hD
  clear hD hg3
  obtain ⟨nz, hnz⟩ : ∃ nz, nzAt (digs d) nd = nz := ⟨_, rfl⟩
  have Hnz := Lib.hid hnz
  rw [hnz] at hz1 hz2 ⊢
  clear hnz
  go_wp2_with fail
  rw [show max ((nz : Int) - 1) 0 = (nz : Int) - 1 from by omega, ← Hnz.out]
  refine (efg_any neg _ w2 v n xs w.heap.size d nd p (hO.later Hg3.out) hn HD.out Hnd.out hndl hd hp0 hp1 _ rfl).mono ?_
  rintro e' w3 ⟨v3, rfl, hO3⟩
  go_wp2_with fail
  go_ret
  exact ⟨_, rfl, hO3.rebase Hg3.out hO.base⟩

set_option maxRecDepth 100000 in
set_option maxHeartbeats 800000 in
theorem ftoa32_sub {B : Nat} (b mant : Nat) (neg : Bool) (v : Value) (n : Nat) (xs : List Value) (w : World) (hG : Good B w) (hO : Out B w w v n xs) (hn : n ≤ 1000) (m u : Int) (hb : b < 4294967296)
    (he : bits .and .i64 ((b : Int) / 8388608) 255 = 0) (hneg : ((b : Int) / 2147483648 != 0) = neg) (hm : bits .and .u64 (b : Int) 8388607 = m) (hM : m = (mant : Int)) (_he2 : True) (hu : Hid (u = -149))
    (hm0 : 0 < mant) (hm1 : mant < 16777216) (A : Bool) (hA : Hid (decide (mant = 8388608 ∧ (-149 : Int) < u) = A)) (hu0 : -149 ≤ u) (hu1 : u ≤ 104) (hsub : mant < 8388608 → u = -149) (d : Nat) (p : Int) (hR : Hid (shortR mant u A = ((d : Int), p))) (hd : 1 ≤ d) (hd2 : d < 18446744073709551616) (hp0 : -350 ≤ p) (hp1 : p ≤ 350) :
    Calls Tryz.prog 144 #[v, .float .f32 b, .int .u8 101, .int .i64 (-1)] w (Appended B w n xs (signOf neg ++ textE d p)) := by
  have hfb := run_f32bits b
  have h40 : ((mant : Int) == 0) = false := by rw [beq_eq_false_iff_ne]; omega
  have hlen := fun w => len64_sh mant w (by omega) (by omega)
  obtain ⟨hs1, hs2, hs3⟩ := sh_bounds (x := mant) (by omega) (by omega)
  have hS : ∀ W, Good B W → B ≤ W.heap.size → Calls Tryz.prog 173 #[.int .u64 ((mant : Int) * 2 ^ sh mant), .int .i64 (u - sh mant)] W fun e' w' => e' = .returned (.tuple #[.int .u64 d, .int .i64 p]) ∧ Below W.heap.size W w' := by
    intro W hGW hBW
    have := short32_all mant u W hGW hBW (by omega) hm1 hu0 hu1 hsub
    rw [hA.out, hR.out] at this
    exact this
  have HS := Lib.hid hS
  have hwr : IntKind.u64.wrap ((mant : Int) * 2 ^ sh mant) = (mant : Int) * 2 ^ sh mant := by
    have : ((mant : Int) * 2 ^ sh mant) = ((mant * 2 ^ sh mant : Nat) : Int) := by simp
    rw [this, u64_wrap_id _ (by omega) (by omega)]
  obtain ⟨s, hs⟩ : ∃ s, sh mant = s := ⟨_, rfl⟩
  rw [hs] at hlen hwr hs1
  have Hwr := Lib.hid hwr
  have Hs := Lib.hid hs
  clear hs hS hwr hs2 hs3
  have HL := Lib.hid hlen
  have hB := hO.base
  obtain ⟨nd, hnd⟩ : ∃ nd, Lib.nDigits d = nd := ⟨_, rfl⟩
  have Hnd := Lib.hid hnd
  have hndl : nd ≤ 20 := by
    rw [← hnd]
    have := Lib.numDigits_eq d hd hd2
    rw [← this.1]
    have h2 := this.2
    split <;> omega
  have hnd1 : 1 ≤ nd := by rw [← hnd]; exact Lib.nDigits_pos d
  clear hlen hnd hsub
  have h41 : (((nd : Nat) : Int) - 1 < 0) = False := by simp; omega
  go_enter Tryz.func144, Tryz.ntmps144
  go_wp2_with fail
  go_quiet (fail)
  go_wp2_with fail
  refine (HL.out _).mono ?_
  rintro e' w' ⟨rfl, hw'⟩; rw [hw']; clear hw' w'
  go_wp2_with fail
  have hg1 : Below w.heap.size w ((w.drewN nq).alloc (.cells (Array.replicate 32 (.int .u8 0)) 178)) := (below_drewN (Below.refl _ _) nq).alloc (by simp) _
  have hgs : ((w.drewN nq).alloc (.cells (Array.replicate 32 (.int .u8 0)) 178)).heap[w.heap.size]? = some (.cells (Array.replicate 32 (.int .u8 0)) 178 (0, 0)) := heap_alloc_new (w.drewN nq) _
  have hsz : ((w.drewN nq).alloc (.cells (Array.replicate 32 (.int .u8 0)) 178)).heap.size = w.heap.size + 1 := by simp
  rw [zeros32]
  generalize hW : (w.drewN nq).alloc (.cells (Array.replicate 32 (.int .u8 0)) 178) = W at *
  clear hW
  rw [show (64 - (64 - s)) = s from by omega, Hwr.out, show (-126 - (64 - (64 - (s : Int))) - 23) = u - (s : Int) from by have := hu.out; omega, ← Hs.out]
  refine (HS.out W (hG.below (hg1.mono hB)) (by omega)).mono ?_
  rintro e' w1 ⟨rfl, hb1⟩
  have hgs1 : w1.heap[w.heap.size]? = some (.cells (Array.replicate 32 (.int .u8 0)) 178 (0, 0)) := (hb1.block _ (by omega)).trans hgs
  have hg2 : Below w.heap.size w w1 := hg1.trans (hb1.mono (by omega))
  have hG1 : Good B w1 := hG.below (hg2.mono hB)
  have HG1 := Lib.hid hgs1
  clear hgs hgs1 hb1 hsz hg1
  go_wp2_with fail
  go_region_with (first | (go_at_call 108; refine (Tryz.internal_strconv_numDigits d hd hd2 _ (by exact hG1.u64p)).mono ?_; rintro e' w' ⟨rfl, hw'⟩; rw [hw', Hnd.out]; clear hw' w') | (go_at_call 174; refine (setDigits_any w.heap.size d nd p _ (by exact HG1.out) hd hd2 Hnd.out hndl hnd1 (by omega) (by omega)).mono ?_; rintro e' w2 ⟨rfl, hD⟩))
  have hz1 := nzAt_pos (digs d) (digs_first d hd) nd hnd1
  have hz2 := nzAt_le (digs d) nd
  have hg3 : Below w.heap.size w w2 := hg2.trans ⟨hD.1.os, hD.1.tape, hD.1.output, hD.1.size, fun k hk => hD.1.block k (Nat.lt_of_lt_of_le hk hg2.size) (by intro h; injection h with h; omega)⟩
  have Hg3 := Lib.hid hg3
  have HD := Lib.hid hD
  clear hD hg3
  obtain ⟨nz, hnz⟩ : ∃ nz, nzAt (digs d) nd = nz := ⟨_, rfl⟩
  have Hnz := Lib.hid hnz
  rw [hnz] at hz1 hz2 ⊢
  clear hnz
  go_wp2_with fail
  rw [show max ((nz : Int) - 1) 0 = (nz : Int) - 1 from by omega, ← Hnz.out]
  refine (efg_any neg _ w2 v n xs w.heap.size d nd p (hO.later Hg3.out) hn HD.out Hnd.out hndl hd hp0 hp1 _ rfl).mono ?_
  rintro e' w3 ⟨v3, rfl, hO3⟩
  go_wp2_with fail
  go_ret
  exact ⟨_, rfl, hO3.rebase Hg3.out hO.base⟩

set_option maxRecDepth 100000 in
set_option maxHeartbeats 800000 in
theorem ftoa64_zero {B : Nat} (b : Nat) (neg : Bool) (v : Value) (n : Nat) (xs : List Value) (w : World) (hO : Out B w w v n xs) (hn : n ≤ 1000) (hb : b < 18446744073709551616)
    (he : bits .and .i64 ((b : Int) / 4503599627370496) 2047 = 0) (hneg : ((b : Int) / 9223372036854775808 != 0) = neg) (hm : bits .and .u64 (b : Int) 4503599627370495 = 0) :
    Calls Tryz.prog 145 #[v, .float .f64 b, .int .u8 101, .int .i64 (-1)] w (Appended B w n xs (signOf neg ++ [48, 101, 43, 48, 48])) := by
  have hfb := run_f64bits b
  go_enter Tryz.func145, Tryz.ntmps145
  go_wp2_with fail
  go_quiet (fail)
  go_wp2_with fail
  refine (efg_zero neg _ v n xs (hO.later (below_drewN (Below.refl _ _) _)) hn).mono ?_
  rintro e' w3 ⟨v3, rfl, hO3⟩
  go_wp2_with fail
  go_ret
  exact ⟨_, rfl, hO3.rebase (below_drewN (Below.refl _ _) _) hO.base⟩

set_option maxRecDepth 100000 in
set_option maxHeartbeats 800000 in
theorem ftoa32_zero {B : Nat} (b : Nat) (neg : Bool) (v : Value) (n : Nat) (xs : List Value) (w : World) (hO : Out B w w v n xs) (hn : n ≤ 1000) (hb : b < 4294967296)
    (he : bits .and .i64 ((b : Int) / 8388608) 255 = 0) (hneg : ((b : Int) / 2147483648 != 0) = neg) (hm : bits .and .u64 (b : Int) 8388607 = 0) :
    Calls Tryz.prog 144 #[v, .float .f32 b, .int .u8 101, .int .i64 (-1)] w (Appended B w n xs (signOf neg ++ [48, 101, 43, 48, 48])) := by
  have hfb := run_f32bits b
  go_enter Tryz.func144, Tryz.ntmps144
  go_wp2_with fail
  go_quiet (fail)
  go_wp2_with fail
  refine (efg_zero neg _ v n xs (hO.later (below_drewN (Below.refl _ _) _)) hn).mono ?_
  rintro e' w3 ⟨v3, rfl, hO3⟩
  go_wp2_with fail
  go_ret
  exact ⟨_, rfl, hO3.rebase (below_drewN (Below.refl _ _) _) hO.base⟩
end Go.Proofs.YtdfodfflkmcgpaaGreatDoor
