/- What a world holds of the library's tables; the scaling constants; the shortest digits of a floating number, as the code reckons them. -/
import Derived.Test.YtdfodfflkmcgpaaGreatDoorA2
namespace Go.Proofs.YtdfodfflkmcgpaaGreatDoor
open Go.RowKit Uscale Pow10

/-- what a world holds of the tables that the printing of numbers reads, all below block B. -/
structure Good (B : Nat) (w : World) : Prop where
  base : 17 ≤ B
  pow : ∀ i, i < 696 → w.cell? ⟨12, i * 2, none⟩ = some (.int .u64 (hiOf i)) ∧ w.cell? ⟨12, i * 2 + 1, none⟩ = some (.int .u64 (loOf i))
  u64p : Lib.TabIs Tryz.prog w "internal/strconv.uint64pow10" .u64 Lib.pow10Tab
  opt : w.cell? ⟨3, 0, none⟩ = some (.bool true)
  maxLen : ∃ m, w.cell? ⟨2, 0, none⟩ = some (.int .i64 m)

theorem gU64p : Tryz.prog.globalNamed "internal/strconv.uint64pow10" = some 1 := by kernel_rfl

theorem cell_same {B g o : Nat} {w w' : World} (h : Below B w w') (hg : g < B) : w'.cell? ⟨g, o, none⟩ = w.cell? ⟨g, o, none⟩ := h.cell hg
theorem Good.below {B : Nat} {w w' : World} (h : Good B w) (hb : Below B w w') : Good B w' where
  base := h.base
  pow := fun i hi => by
    have := h.base
    rw [cell_same hb (by omega), cell_same hb (by omega)]; exact h.pow i hi
  u64p := var?_below hb gU64p (by have := h.base; omega) h.u64p
  opt := (cell_same hb (by have := h.base; omega)).trans h.opt
  maxLen := by
    obtain ⟨m, hm⟩ := h.maxLen
    exact ⟨m, (cell_same hb (by have := h.base; omega)).trans hm⟩

theorem Good.alloc {B : Nat} {w : World} (h : Good B w) (hB : B ≤ w.heap.size) (o : Obj) : Good B (w.alloc o) := h.below ((Below.refl _ _).alloc hB o)
theorem below_drewN {B : Nat} {a w : World} (h : Below B a w) (n : Nat) : Below B a (w.drewN n) := ⟨h.os, h.tape, h.output, h.size, h.block⟩
theorem Good.drewN {B : Nat} {w : World} (h : Good B w) (n : Nat) : Good B (w.drewN n) := h.below (below_drewN (Below.refl _ _) n)

theorem log10Pow2_to (x q : Int) (w : World) (h0 : -2000 ≤ x) (h1 : x ≤ 2000) (hq : x * 78913 / 262144 = q) :
    Calls Tryz.prog 139 #[.int .i64 x] w fun e w' => e = .returned (.int .i64 q) ∧ w' = w := hq ▸ log10Pow2_any x w h0 h1
theorem skewed_to (x q : Int) (w : World) (h0 : -2000 ≤ x) (h1 : x ≤ 2000) (hq : (x * 631305 - 261663) / 2097152 = q) :
    Calls Tryz.prog 189 #[.int .i64 x] w fun e w' => e = .returned (.int .i64 q) ∧ w' = w := hq ▸ skewed_any x w h0 h1
theorem log2Pow10_to (x q : Int) (w : World) (h0 : -2000 ≤ x) (h1 : x ≤ 2000) (hq : x * 108853 / 32768 = q) :
    Calls Tryz.prog 191 #[.int .i64 x] w fun e w' => e = .returned (.int .i64 q) ∧ w' = w := hq ▸ log2Pow10_any x w h0 h1

theorem uscale_int (x s : Int) (hi lo : Nat) (b : Nat) (w : World) (hx0 : 4 ≤ x) (hx : x < 18446744073709551616) (hhi0 : 9223372036854775808 ≤ hi) (hhi : hi < 18446744073709551616) (hlo : lo < 18446744073709551616) (hs0 : 0 ≤ s) (hs : s < 64)
   (c0 : w.cell? ⟨b, 0, none⟩ = some (.int .u64 hi)) (c1 : w.cell? ⟨b, 1, none⟩ = some (.int .u64 lo)) (c2 : w.cell? ⟨b, 2, none⟩ = some (.int .i64 s)) :
    Calls Tryz.prog 192 #[.int .u64 x, .pointer (some ⟨b, 0, none⟩)] w fun e w' => e = .returned (.int .u64 (uscaleF x.toNat hi lo s.toNat)) ∧ ∃ n, w' = w.drewN n := by
  obtain ⟨x, rfl⟩ := Int.eq_ofNat_of_zero_le (show 0 ≤ x by omega)
  obtain ⟨s, rfl⟩ := Int.eq_ofNat_of_zero_le hs0
  rw [Int.toNat_natCast, Int.toNat_natCast]
  exact uscale_any x hi lo s b w (by omega) (by omega) hhi0 hhi hlo (by omega) c0 c1 c2

set_option maxHeartbeats 400000 in
theorem prescale_any (e p lp : Int) (b : Nat) (hi lo : Nat) (w : World) (h0 : -348 ≤ p) (h1 : p ≤ 347) (h2 : -5000 ≤ e) (h3 : e ≤ 5000) (h4 : -5000 ≤ lp) (h5 : lp ≤ 5000) (v0 v1 v2 : Value)
   (k0 : w.cell? ⟨12, (p + 348).toNat * 2, none⟩ = some (.int .u64 hi)) (k1 : w.cell? ⟨12, (p + 348).toNat * 2 + 1, none⟩ = some (.int .u64 lo))
   (c0 : w.cell? ⟨b, 0, none⟩ = some v0) (c1 : w.cell? ⟨b, 1, none⟩ = some v1) (c2 : w.cell? ⟨b, 2, none⟩ = some v2)
   (f0 : w.frozen? ⟨b, 0, none⟩ = false) (f1 : w.frozen? ⟨b, 1, none⟩ = false) (f2 : w.frozen? ⟨b, 2, none⟩ = false) (hb : ¬ b = 12) :
    Calls Tryz.prog 190 #[.pointer (some ⟨b, 0, none⟩), .int .i64 e, .int .i64 p, .int .i64 lp] w fun e' w' => e' = .returned (.tuple #[]) ∧
      w' = (((w.setCell ⟨b, 0, none⟩ (.int .u64 hi)).setCell ⟨b, 1, none⟩ (.int .u64 lo)).setCell ⟨b, 2, none⟩ (.int .i64 (-(e + lp + 3)))) := by
  have hb' : ¬ 12 = b := fun h => hb h.symm
  go_enter Tryz.func190, Tryz.ntmps190
  go_wp2
  go_end0
  exact ⟨rfl, rfl⟩

/-- the scaling constants, laid into a block that is just made. -/
theorem prescale_fresh {B : Nat} (e p lp s : Int) (v0 v1 v2 : Value) (w : World) (hG : Good B w) (hB : B ≤ w.heap.size) (h0 : -348 ≤ p) (h1 : p ≤ 347) (h2 : -5000 ≤ e) (h3 : e ≤ 5000) (h4 : -5000 ≤ lp) (h5 : lp ≤ 5000) (hs : -(e + lp + 3) = s) :
    Calls Tryz.prog 190 #[.pointer (some ⟨w.heap.size, 0, none⟩), .int .i64 e, .int .i64 p, .int .i64 lp] (w.alloc (.cells #[v0, v1, v2] 205)) fun e' w' => e' = .returned (.tuple #[]) ∧
      w' = w.alloc (.cells #[.int .u64 (hiOf (p + 348).toNat), .int .u64 (loOf (p + 348).toNat), .int .i64 s] 205) := by
  have hg := (hG.alloc hB (.cells #[v0, v1, v2] 205)).pow (p + 348).toNat (by omega)
  have hb := hG.base
  refine (prescale_any e p lp w.heap.size _ _ _ h0 h1 h2 h3 h4 h5 v0 v1 v2 hg.1 hg.2 (by simp) (by simp) (by simp) (by simp) (by simp) (by simp) (by omega)).mono ?_
  rintro e' w' ⟨rfl, rfl⟩
  refine ⟨rfl, ?_⟩
  rw [hs]
  simp [World.setCell_alloc_new]

/-- the shortest digits as the code reckons them: of the number, its two ends, whether they belong to it. -/
def shortOf (m mn mx odd hi lo s : Nat) (q : Int) : Nat × Int :=
  if (uscaleF mn hi lo s + odd + 3) / 4 ≤ (uscaleF mx hi lo s - odd) / 4 / 10 * 10 then ((uscaleF mx hi lo s - odd) / 4 / 10, q + 1)
  else (if (uscaleF mn hi lo s + odd + 3) / 4 < (uscaleF mx hi lo s - odd) / 4 then (uscaleF m hi lo s + 1 + uscaleF m hi lo s / 4 % 2) / 4 else (uscaleF mn hi lo s + odd + 3) / 4, q)
end Go.Proofs.YtdfodfflkmcgpaaGreatDoor
