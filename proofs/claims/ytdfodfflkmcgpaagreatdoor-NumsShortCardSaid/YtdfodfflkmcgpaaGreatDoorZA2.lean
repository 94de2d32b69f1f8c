/- The small functions of the library's floating numbers: each returns what is reckoned here; the world has drawn at most. -/
import Derived.Test.YtdfodfflkmcgpaaGreatDoorZA1
import Derived.Test.YtdfodfflkmcgpaaGreatDoorSh
import Derived.WalkKit
import Derived.Deep.QuietTactic
import Derived.BigQuiet
import Derived.WalkLawsBesides
import Derived.Outline
import Derived.Lib.Hide
namespace Go.Proofs.YtdfodfflkmcgpaaGreatDoor
open Go.RowKit
theorem ret_i {k : IntKind} {a b : Int} (h : a = b) : Ending.returned (.int k a) = .returned (.int k b) := by rw [h]
theorem i64_and63 (s : Nat) (hs : s < 64) : bits BinOp.and IntKind.i64 (s : Int) 63 = (s : Int) := by
  have h : ∀ t : Fin 64, bits BinOp.and IntKind.i64 ((t.val : Nat) : Int) 63 = ((t.val : Nat) : Int) := by decide +kernel
  exact h ⟨s, hs⟩
theorem u64_and1 (u : Int) (h0 : 0 ≤ u) (h1 : u < 18446744073709551616) : bits .and .u64 u 1 = u % 2 := by
  rw [u64_and u 1 h0 h1 (by omega) (by omega), show (1 : Int).toNat = 1 from rfl, nat_mask1]; omega
theorem u64_wrap_id (u : Int) (h0 : 0 ≤ u) (h1 : u < 18446744073709551616) : IntKind.u64.wrap u = u := by rw [IntKind.wrap_u64]; omega

theorem bool2_u64 (b : Bool) (w : World) : Calls Tryz.prog 214 #[.bool b] w fun e w' => e = .returned (.int .u64 (b.toNat : Int)) ∧ w' = w := by
  cases b
  all_goals
    go_enter Tryz.func214, Tryz.ntmps214
    go_wp2
    go_ret
    exact ⟨rfl, rfl⟩
theorem bool2_un (b : Bool) (w : World) : Calls Tryz.prog 218 #[.bool b] w fun e w' => e = .returned (.int .u64 (b.toNat : Int)) ∧ w' = w := by
  cases b
  all_goals
    go_enter Tryz.func218, Tryz.ntmps218
    go_wp2
    go_ret
    exact ⟨rfl, rfl⟩
theorem bool2_u32 (b : Bool) (w : World) : Calls Tryz.prog 208 #[.bool b] w fun e w' => e = .returned (.int .u32 (b.toNat : Int)) ∧ w' = w := by
  cases b
  all_goals
    go_enter Tryz.func208, Tryz.ntmps208
    go_wp2
    go_ret
    exact ⟨rfl, rfl⟩
theorem bool2_i (b : Bool) (w : World) : Calls Tryz.prog 141 #[.bool b] w fun e w' => e = .returned (.int .i64 (b.toNat : Int)) ∧ w' = w := by
  cases b
  all_goals
    go_enter Tryz.func141, Tryz.ntmps141
    go_wp2
    go_ret
    exact ⟨rfl, rfl⟩
theorem log10Pow2_any (x : Int) (w : World) (h0 : -2000 ≤ x) (h1 : x ≤ 2000) :
    Calls Tryz.prog 139 #[.int .i64 x] w fun e w' => e = .returned (.int .i64 (x * 78913 / 262144)) ∧ w' = w := by
  go_enter Tryz.func139, Tryz.ntmps139
  go_wp2
  go_ret
  exact ⟨rfl, rfl⟩
theorem log2Pow10_any (x : Int) (w : World) (h0 : -2000 ≤ x) (h1 : x ≤ 2000) :
    Calls Tryz.prog 191 #[.int .i64 x] w fun e w' => e = .returned (.int .i64 (x * 108853 / 32768)) ∧ w' = w := by
  go_enter Tryz.func191, Tryz.ntmps191
  go_wp2
  go_ret
  exact ⟨rfl, rfl⟩
theorem skewed_any (x : Int) (w : World) (h0 : -2000 ≤ x) (h1 : x ≤ 2000) :
    Calls Tryz.prog 189 #[.int .i64 x] w fun e w' => e = .returned (.int .i64 ((x * 631305 - 261663) / 2097152)) ∧ w' = w := by
  go_enter Tryz.func189, Tryz.ntmps189
  go_wp2
  go_ret
  exact ⟨rfl, rfl⟩
theorem ceil_any (u : Int) (w : World) (h0 : 0 ≤ u) (h1 : u < 18446744073709551600) :
    Calls Tryz.prog 194 #[.int .u64 u] w fun e w' => e = .returned (.int .u64 ((u + 3) / 4)) ∧ w' = w := by
  go_enter Tryz.func194, Tryz.ntmps194
  go_wp2
  go_ret
  exact ⟨rfl, rfl⟩
theorem floor_any (u : Int) (w : World) (h0 : 0 ≤ u) (h1 : u < 18446744073709551600) :
    Calls Tryz.prog 195 #[.int .u64 u] w fun e w' => e = .returned (.int .u64 (u / 4)) ∧ w' = w := by
  go_enter Tryz.func195, Tryz.ntmps195
  go_wp2
  go_ret
  exact ⟨rfl, rfl⟩
theorem round_any (u : Int) (w : World) (h0 : 0 ≤ u) (h1 : u < 18446744073709551600) :
    Calls Tryz.prog 196 #[.int .u64 u] w fun e w' => e = .returned (.int .u64 ((u + 1 + u / 4 % 2) / 4)) ∧ w' = w := by
  go_enter Tryz.func196, Tryz.ntmps196
  go_wp2
  go_ret
  exact ⟨ret_i (by rw [u64_and1 _ (by omega) (by omega), u64_wrap_id _ (by omega) (by omega)]), rfl⟩
theorem nudge_any (u d : Int) (w : World) (h0 : 1 ≤ u) (h1 : u < 18446744073709551600) (h2 : -1 ≤ d) (h3 : d ≤ 1) :
    Calls Tryz.prog 193 #[.int .u64 u, .int .i64 d] w fun e w' => e = .returned (.int .u64 (u + d)) ∧ w' = w := by
  go_enter Tryz.func193, Tryz.ntmps193
  go_wp2
  go_ret
  exact ⟨ret_i (by rw [IntKind.wrap_u64, IntKind.wrap_u64]; omega), rfl⟩

theorem shl_shr_ne (H s : Nat) (hH : H < 18446744073709551616) : (IntKind.u64.wrap ((H : Int) / 2 ^ s * 2 ^ s) != (H : Int)) = decide (H % 2 ^ s ≠ 0) := by
  have e : ((H : Int) / 2 ^ s * 2 ^ s) = ((H / 2 ^ s * 2 ^ s : Nat) : Int) := by simp
  have hd := Nat.div_add_mod H (2 ^ s)
  rw [Nat.mul_comm] at hd
  generalize H / 2 ^ s * 2 ^ s = a at *
  rw [e, u64_wrap_id _ (by omega) (by omega)]
  rw [Bool.eq_iff_iff]; simp; omega

open Uscale in
set_option maxHeartbeats 400000 in
theorem uscale_any (x hi lo : Nat) (s : Nat) (b : Nat) (w : World) (hx0 : 4 ≤ x) (hx : x < 18446744073709551616) (hhi0 : 9223372036854775808 ≤ hi) (hhi : hi < 18446744073709551616) (hlo : lo < 18446744073709551616) (hs : s < 64)
   (c0 : w.cell? ⟨b, 0, none⟩ = some (.int .u64 hi)) (c1 : w.cell? ⟨b, 1, none⟩ = some (.int .u64 lo)) (c2 : w.cell? ⟨b, 2, none⟩ = some (.int .i64 s)) :
    Calls Tryz.prog 192 #[.int .u64 x, .pointer (some ⟨b, 0, none⟩)] w fun e w' => e = .returned (.int .u64 (uscaleF x hi lo s)) ∧ ∃ n, w' = w.drewN n := by
  have hm := i64_and63 s hs
  have hHb : 4 * 9223372036854775808 ≤ x * hi := Nat.mul_le_mul hx0 hhi0
  have hP : x * hi < 18446744073709551616 * 18446744073709551616 := Nat.mul_lt_mul'' hx hhi
  have hQ : x * lo < 18446744073709551616 * 18446744073709551616 := Nat.mul_lt_mul'' hx hlo
  have e1 := shl_shr_ne (x * hi / 18446744073709551616) s (by omega)
  by_cases hz : x * hi / 18446744073709551616 % 2 ^ s = 0
  · have hfin : (uscaleF x hi lo s : Int) = bits BinOp.or IntKind.u64 (IntKind.u64.wrap ((x : Int) * hi / 18446744073709551616 - ((decide ((x : Int) * hi % 18446744073709551616 < (x : Int) * lo / 18446744073709551616)).toNat : Int)) / 2 ^ s)
        ((decide (1 < IntKind.u64.wrap ((x : Int) * hi % 18446744073709551616 - (x : Int) * lo / 18446744073709551616))).toNat : Int) := by
      unfold uscaleF
      rw [if_pos hz]
      have d1 : ((x : Int) * hi / 18446744073709551616) = ((x * hi / 18446744073709551616 : Nat) : Int) := by simp
      have d2 : ((x : Int) * hi % 18446744073709551616) = ((x * hi % 18446744073709551616 : Nat) : Int) := by simp
      have d3 : ((x : Int) * lo / 18446744073709551616) = ((x * lo / 18446744073709551616 : Nat) : Int) := by simp
      rw [d1, d2, d3]
      have f1 : x * hi / 18446744073709551616 < 18446744073709551616 := by omega
      have f0 : 1 ≤ x * hi / 18446744073709551616 := by omega
      have f2 : x * hi % 18446744073709551616 < 18446744073709551616 := by omega
      have f3 : x * lo / 18446744073709551616 < 18446744073709551616 := by omega
      generalize x * hi / 18446744073709551616 = H at *
      generalize x * hi % 18446744073709551616 = M at *
      generalize x * lo / 18446744073709551616 = L at *
      have g1 : (decide ((M : Int) < L)) = decide (M < L) := by simp
      have g2 : IntKind.u64.wrap ((M : Int) - L) = (((M + 18446744073709551616 - L) % 18446744073709551616 : Nat) : Int) := by rw [IntKind.wrap_u64]; omega
      rw [g1, g2]
      have g3 : (decide ((1 : Int) < (((M + 18446744073709551616 - L) % 18446744073709551616 : Nat) : Int))) = decide (1 < (M + 18446744073709551616 - L) % 18446744073709551616) := by
        rw [Bool.eq_iff_iff]; simp; omega
      rw [g3]
      have g4 : ((decide (M < L)).toNat) ≤ 1 := Bool.toNat_le _
      have g5 : ((decide (1 < (M + 18446744073709551616 - L) % 18446744073709551616)).toNat) ≤ 1 := Bool.toNat_le _
      generalize (decide (M < L)).toNat = k at *
      generalize (decide (1 < (M + 18446744073709551616 - L) % 18446744073709551616)).toNat = j at *
      have g6 : IntKind.u64.wrap ((H : Int) - (k : Int)) = ((H - k : Nat) : Int) := by rw [IntKind.wrap_u64]; omega
      rw [g6]
      have g7 : (((H - k : Nat) : Int) / 2 ^ s) = (((H - k) / 2 ^ s : Nat) : Int) := by simp
      rw [g7, u64_or_nat _ _ (Nat.lt_of_le_of_lt (Nat.div_le_self _ _) (by omega)) (by omega)]
    have hne : (IntKind.u64.wrap ((x : Int) * hi / 18446744073709551616 / 2 ^ s * 2 ^ s) != (x : Int) * hi / 18446744073709551616) = false := by
      have d1 : ((x : Int) * hi / 18446744073709551616) = ((x * hi / 18446744073709551616 : Nat) : Int) := by simp
      rw [d1, e1]; simp [hz]
    have Hf := Lib.hid hfin
    clear hfin e1 hz hHb hP hQ
    go_enter Tryz.func192, Tryz.ntmps192
    go_wp2_with (first | (go_at_call 136; refine (Tryz.bits_Mul64 _ _ (by assumption) (by assumption) _).mono ?_; rintro e w' ⟨rfl, hw⟩; rw [hw]) | (go_at_call 214; refine (bool2_u64 _ _).mono ?_; rintro e w' ⟨rfl, hw⟩; rw [hw]))
    go_quiet ((go_at_call 214; exact Calls.quiet_of_same (bool2_u64 _ _)))
    go_wp2
    go_ret
    exact ⟨ret_i Hf.out.symm, _, rfl⟩
  · have hfin : (uscaleF x hi lo s : Int) = bits BinOp.or IntKind.u64 ((x : Int) * hi / 18446744073709551616 / 2 ^ s) 1 := by
      unfold uscaleF
      rw [if_neg hz]
      have d1 : ((x : Int) * hi / 18446744073709551616 / 2 ^ s) = ((x * hi / 18446744073709551616 / 2 ^ s : Nat) : Int) := by simp
      rw [d1]
      exact (u64_or_nat _ 1 (Nat.lt_of_le_of_lt (Nat.div_le_self _ _) (by omega)) (by omega)).symm
    have hne : (IntKind.u64.wrap ((x : Int) * hi / 18446744073709551616 / 2 ^ s * 2 ^ s) != (x : Int) * hi / 18446744073709551616) = true := by
      have d1 : ((x : Int) * hi / 18446744073709551616) = ((x * hi / 18446744073709551616 : Nat) : Int) := by simp
      rw [d1, e1]; simp [hz]
    have Hf := Lib.hid hfin
    clear hfin e1 hz hHb hP hQ
    go_enter Tryz.func192, Tryz.ntmps192
    go_wp2_with (first | (go_at_call 136; refine (Tryz.bits_Mul64 _ _ (by assumption) (by assumption) _).mono ?_; rintro e w' ⟨rfl, hw⟩; rw [hw]) | (go_at_call 214; refine (bool2_u64 _ _).mono ?_; rintro e w' ⟨rfl, hw⟩; rw [hw]))
    go_ret
    exact ⟨ret_i Hf.out.symm, 0, rfl⟩
end Go.Proofs.YtdfodfflkmcgpaaGreatDoor
/- What a world holds of the library's tables; the scaling constants; the shortest digits of a floating number, as the code reckons them. -/
namespace Go.Proofs.YtdfodfflkmcgpaaGreatDoor
open Go.RowKit Uscale Pow10

/-- what a world holds of the tables that the printing of numbers reads, all below block B. -/
structure Good (B : Nat) (w : World) : Prop where
  base : 17 ≤ B
  pow : ∀ i, i < 696 → w.cell? ⟨12, i * 2, none⟩ = some (.int .u64 (hiOf i)) ∧ w.cell? ⟨12, i * 2 + 1, none⟩ = some (.int .u64 (loOf i))
  u64p : Lib.TabIs Tryz.prog w "internal/strconv.uint64pow10" .u64 Lib.pow10Tab
  opt : w.cell? ⟨3, 0, none⟩ = some (.bool true)
  maxLen : ∃ m, w.cell? ⟨2, 0, none⟩ = some (.int .i64 m)

theorem gU64p : Tryz.prog.globalNamed "internal/strconv.uint64pow10" = some 1 := by kernel_rfl

theorem cell_same {B g o : Nat} {w w' : World} (h : Below B w w') (hg : g < B) : w'.cell? ⟨g, o, none⟩ = w.cell? ⟨g, o, none⟩ := h.cell hg
theorem Good.below {B : Nat} {w w' : World} (h : Good B w) (hb : Below B w w') : Good B w' where
  base := h.base
  pow := fun i hi => by
    have := h.base
    rw [cell_same hb (by omega), cell_same hb (by omega)]; exact h.pow i hi
  u64p := var?_below hb gU64p (by have := h.base; omega) h.u64p
  opt := (cell_same hb (by have := h.base; omega)).trans h.opt
  maxLen := by
    obtain ⟨m, hm⟩ := h.maxLen
    exact ⟨m, (cell_same hb (by have := h.base; omega)).trans hm⟩

theorem Good.alloc {B : Nat} {w : World} (h : Good B w) (hB : B ≤ w.heap.size) (o : Obj) : Good B (w.alloc o) := h.below ((Below.refl _ _).alloc hB o)
theorem below_drewN {B : Nat} {a w : World} (h : Below B a w) (n : Nat) : Below B a (w.drewN n) := ⟨h.os, h.tape, h.output, h.size, h.block⟩
theorem Good.drewN {B : Nat} {w : World} (h : Good B w) (n : Nat) : Good B (w.drewN n) := h.below (below_drewN (Below.refl _ _) n)

theorem log10Pow2_to (x q : Int) (w : World) (h0 : -2000 ≤ x) (h1 : x ≤ 2000) (hq : x * 78913 / 262144 = q) :
    Calls Tryz.prog 139 #[.int .i64 x] w fun e w' => e = .returned (.int .i64 q) ∧ w' = w := hq ▸ log10Pow2_any x w h0 h1
theorem skewed_to (x q : Int) (w : World) (h0 : -2000 ≤ x) (h1 : x ≤ 2000) (hq : (x * 631305 - 261663) / 2097152 = q) :
    Calls Tryz.prog 189 #[.int .i64 x] w fun e w' => e = .returned (.int .i64 q) ∧ w' = w := hq ▸ skewed_any x w h0 h1
theorem log2Pow10_to (x q : Int) (w : World) (h0 : -2000 ≤ x) (h1 : x ≤ 2000) (hq : x * 108853 / 32768 = q) :
    Calls Tryz.prog 191 #[.int .i64 x] w fun e w' => e = .returned (.int .i64 q) ∧ w' = w := hq ▸ log2Pow10_any x w h0 h1

theorem uscale_int (x s : Int) (hi lo : Nat) (b : Nat) (w : World) (hx0 : 4 ≤ x) (hx : x < 18446744073709551616) (hhi0 : 9223372036854775808 ≤ hi) (hhi : hi < 18446744073709551616) (hlo : lo < 18446744073709551616) (hs0 : 0 ≤ s) (hs : s < 64)
   (c0 : w.cell? ⟨b, 0, none⟩ = some (.int .u64 hi)) (c1 : w.cell? ⟨b, 1, none⟩ = some (.int .u64 lo)) (c2 : w.cell? ⟨b, 2, none⟩ = some (.int .i64 s)) :
    Calls Tryz.prog 192 #[.int .u64 x, .pointer (some ⟨b, 0, none⟩)] w fun e w' => e = .returned (.int .u64 (uscaleF x.toNat hi lo s.toNat)) ∧ ∃ n, w' = w.drewN n := by
  obtain ⟨x, rfl⟩ := Int.eq_ofNat_of_zero_le (show 0 ≤ x by omega)
  obtain ⟨s, rfl⟩ := Int.eq_ofNat_of_zero_le hs0
  rw [Int.toNat_natCast, Int.toNat_natCast]
  exact uscale_any x hi lo s b w (by omega) (by omega) hhi0 hhi hlo (by omega) c0 c1 c2

set_option maxHeartbeats 400000 in
theorem prescale_any (e p lp : Int) (b : Nat) (hi lo : Nat) (w : World) (h0 : -348 ≤ p) (h1 : p ≤ 347) (h2 : -5000 ≤ e) (h3 : e ≤ 5000) (h4 : -5000 ≤ lp) (h5 : lp ≤ 5000) (v0 v1 v2 : Value)
   (k0 : w.cell? ⟨12, (p + 348).toNat * 2, none⟩ = some (.int .u64 hi)) (k1 : w.cell? ⟨12, (p + 348).toNat * 2 + 1, none⟩ = some (.int .u64 lo))
   (c0 : w.cell? ⟨b, 0, none⟩ = some v0) (c1 : w.cell? ⟨b, 1, none⟩ = some v1) (c2 : w.cell? ⟨b, 2, none⟩ = some v2)
   (f0 : w.frozen? ⟨b, 0, none⟩ = false) (f1 : w.frozen? ⟨b, 1, none⟩ = false) (f2 : w.frozen? ⟨b, 2, none⟩ = false) (hb : ¬ b = 12) :
    Calls Tryz.prog 190 #[.pointer (some ⟨b, 0, none⟩), .int .i64 e, .int .i64 p, .int .i64 lp] w fun e' w' => e' = .returned (.tuple #[]) ∧
      w' = (((w.setCell ⟨b, 0, none⟩ (.int .u64 hi)).setCell ⟨b, 1, none⟩ (.int .u64 lo)).setCell ⟨b, 2, none⟩ (.int .i64 (-(e + lp + 3)))) := by
  have hb' : ¬ 12 = b := fun h => hb h.symm
  go_enter Tryz.func190, Tryz.ntmps190
  go_wp2
  go_end0
  exact ⟨rfl, rfl⟩

/-- the scaling constants, laid into a block that is just made. -/
theorem prescale_fresh {B : Nat} (e p lp s : Int) (v0 v1 v2 : Value) (w : World) (hG : Good B w) (hB : B ≤ w.heap.size) (h0 : -348 ≤ p) (h1 : p ≤ 347) (h2 : -5000 ≤ e) (h3 : e ≤ 5000) (h4 : -5000 ≤ lp) (h5 : lp ≤ 5000) (hs : -(e + lp + 3) = s) :
    Calls Tryz.prog 190 #[.pointer (some ⟨w.heap.size, 0, none⟩), .int .i64 e, .int .i64 p, .int .i64 lp] (w.alloc (.cells #[v0, v1, v2] 205)) fun e' w' => e' = .returned (.tuple #[]) ∧
      w' = w.alloc (.cells #[.int .u64 (hiOf (p + 348).toNat), .int .u64 (loOf (p + 348).toNat), .int .i64 s] 205) := by
  have hg := (hG.alloc hB (.cells #[v0, v1, v2] 205)).pow (p + 348).toNat (by omega)
  have hb := hG.base
  refine (prescale_any e p lp w.heap.size _ _ _ h0 h1 h2 h3 h4 h5 v0 v1 v2 hg.1 hg.2 (by simp) (by simp) (by simp) (by simp) (by simp) (by simp) (by omega)).mono ?_
  rintro e' w' ⟨rfl, rfl⟩
  refine ⟨rfl, ?_⟩
  rw [hs]
  simp [World.setCell_alloc_new]

/-- the shortest digits as the code reckons them: of the number, its two ends, whether they belong to it. -/
def shortOf (m mn mx odd hi lo s : Nat) (q : Int) : Nat × Int :=
  if (uscaleF mn hi lo s + odd + 3) / 4 ≤ (uscaleF mx hi lo s - odd) / 4 / 10 * 10 then ((uscaleF mx hi lo s - odd) / 4 / 10, q + 1)
  else (if (uscaleF mn hi lo s + odd + 3) / 4 < (uscaleF mx hi lo s - odd) / 4 then (uscaleF m hi lo s + 1 + uscaleF m hi lo s / 4 % 2) / 4 else (uscaleF mn hi lo s + odd + 3) / 4, q)
end Go.Proofs.YtdfodfflkmcgpaaGreatDoor
