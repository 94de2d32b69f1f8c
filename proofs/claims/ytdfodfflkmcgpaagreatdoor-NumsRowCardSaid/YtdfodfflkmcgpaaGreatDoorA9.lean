/- The digits of a number laid into a buffer, noughts at the end told apart. -/
import Derived.Test.YtdfodfflkmcgpaaGreatDoorA7
namespace Go.Proofs.YtdfodfflkmcgpaaGreatDoor
open Go.RowKit Go.Sort
set_option linter.unusedVariables false

/-- a new world by a row of bytes at the head of a block. -/
theorem heap_putRow {w : World} {g : Nat} {cs : Array Value} {t : TypeId} (hb : w.heap[g]? = some (.cells cs t (0, 0))) (dk : Array UInt8) :
    (putRow (fun (b : UInt8) => Value.int .u8 (b.toNat : Int)) w g 0 dk).heap[g]? = some (.cells (putCells (fun (b : UInt8) => Value.int .u8 (b.toNat : Int)) 0 dk cs) t (0, 0)) := by
  unfold putRow mapBlock
  simp [Array.getElem?_modify, hb, onCells]
theorem grown_putRow (w : World) (g : Nat) (dk : Array UInt8) : w.grownBy (putRow (fun (b : UInt8) => Value.int .u8 (b.toNat : Int)) w g 0 dk) (some g) where
  os := rfl
  tape := rfl
  output := rfl
  size := by simp
  block := fun k _ hne => by
    unfold putRow mapBlock
    have : k ≠ g := fun h => hne (by rw [h])
    rw [Array.getElem?_modify]
    rw [if_neg (fun h => this h.symm)]
theorem zeros_holds {w : World} {g nd : Nat} (hb : w.heap[g]? = some (.cells (Array.replicate 32 (.int .u8 0)) 178 (0, 0))) (hnd : nd ≤ 32) :
    Holds (fun (b : UInt8) => Value.int .u8 (b.toNat : Int)) w g 0 (Array.replicate nd (0 : UInt8)) := fun j hj => by
  have hj' : j < nd := by simpa using hj
  refine ⟨?_, by simp [World.frozen?, hb]⟩
  rw [cell_of_row w g (0 + j) _ _ _ hb, Array.getElem?_replicate, if_pos (by omega), getElem!_pos _ j hj]
  simp
/-- how many digits are left where noughts at the end fall away. -/
def nzAt (D : List Int) : Nat → Nat
  | 0 => 0
  | k + 1 => if D.getD k 0 = 48 then nzAt D k else k + 1
/-- the digits of a number, as bytes. -/
def digs (d : Nat) : List Int := (Lib.decDigits d).map fun b => (b.toNat : Int)
theorem digs_length (d : Nat) : (digs d).length = Lib.nDigits d := by unfold digs; rw [List.length_map, Lib.decDigits_length]
theorem digs_cell {d v' nd : Nat} {dk : Array UInt8} (hn : Lib.nDigits d = nd) (h : Lib.FmtInv nd d 0 v' dk) (cs : Array Value) (hcs : cs.size = 32) (hnd : nd ≤ 20) (j : Nat) (hj : j < nd) :
    (putCells (fun (b : UInt8) => Value.int .u8 (b.toNat : Int)) 0 dk cs)[j]? = some (.int .u8 ((digs d).getD j 0)) := by
  subst hn
  have h1 := Lib.row_is_numeral h j (by rw [Lib.decDigits_length]; exact hj)
  have hsz := h.size
  have hl : j < (digs d).length := by rw [digs_length]; exact hj
  unfold putCells
  rw [Array.getElem?_mapIdx, Array.getElem?_eq_getElem (by omega)]
  simp only [Option.map_some, Nat.zero_le, true_and, Nat.zero_add, Nat.sub_zero]
  rw [if_pos (by omega), ← h1, List.getD_eq_getElem?_getD, List.getElem?_eq_getElem hl]
  simp [digs]
theorem nzAt_same (D : List Int) (k : Nat) (h : D.getD k 0 = 48) : nzAt D (k + 1) = nzAt D k := by rw [nzAt, if_pos h]
theorem nzAt_end (D : List Int) (k : Nat) (h : ¬ D.getD k 0 = 48) : nzAt D (k + 1) = k + 1 := by rw [nzAt, if_neg h]
theorem nDigits_pow (d : Nat) (hd : 1 ≤ d) (hd2 : d < 18446744073709551616) : d < 10 ^ Lib.nDigits d := by
  exact Lib.lt_pow_nDigits d
/-- what setDigits leaves: the digits in block g, none else turned. -/
def Digits (g : Nat) (d nd : Nat) (w w' : World) : Prop :=
  w.grownBy w' (some g) ∧ ∃ cs : Array Value, w'.heap[g]? = some (.cells cs 178 (0, 0)) ∧ ∀ j, j < nd → cs[j]? = some (.int .u8 ((digs d).getD j 0))
set_option maxRecDepth 100000 in
set_option maxHeartbeats 400000 in
theorem setDigits_any (g : Nat) (d nd : Nat) (p : Int) (w : World) (hb : w.heap[g]? = some (.cells (Array.replicate 32 (.int .u8 0)) 178 (0, 0))) (hd : 1 ≤ d) (hd2 : d < 18446744073709551616) (hnd : Lib.nDigits d = nd) (hnd2 : nd ≤ 20) (hnd0 : 1 ≤ nd) (hp0 : -400 ≤ p) (hp1 : p ≤ 400) :
    Calls Tryz.prog 174 #[.slice (some ⟨g, 0, none⟩) 32 32, .int .u64 d, .int .i64 p, .int .i64 nd] w fun e w' => e = .returned (.tuple #[.int .i64 (nd + p), .int .i64 (nzAt (digs d) nd)]) ∧ Digits g d nd w w' := by
  have hz := zeros_holds (nd := nd) hb (by omega)
  have hu : d < 10 ^ (Array.replicate nd (0 : UInt8)).size := by rw [Array.size_replicate, ← hnd]; exact nDigits_pow d hd hd2
  have hH := Tryz.internal_strconv_formatBase10 g 0 32 d (Array.replicate nd (0 : UInt8)) w hz hu hd2 (by simp; omega)
  rw [Array.size_replicate] at hH
  have HH := Lib.hid hH
  clear hH hu hz
  have Hn := Lib.hid hnd
  have Hb := Lib.hid hb
  clear hnd hb
  go_enter Tryz.func174, Tryz.ntmps174
  go_wp2_with fail
  refine HH.out.mono ?_
  rintro e' w1 ⟨rfl, n, v', dk, hw1, hF⟩
  have hcs : ∀ j, j < nd → (putCells (fun (b : UInt8) => Value.int .u8 (b.toNat : Int)) 0 dk (Array.replicate 32 (.int .u8 0)))[j]? = some (.int .u8 ((digs d).getD j 0)) := fun j hj => digs_cell Hn.out hF _ (by simp) hnd2 j hj
  have hheap : w1.heap[g]? = some (.cells (putCells (fun (b : UInt8) => Value.int .u8 (b.toNat : Int)) 0 dk (Array.replicate 32 (.int .u8 0))) 178 (0, 0)) := by rw [hw1]; exact heap_putRow Hb.out dk
  have hDig : Digits g d nd w w1 := ⟨by rw [hw1]; exact ⟨rfl, rfl, rfl, (grown_putRow w g dk).size, (grown_putRow w g dk).block⟩, _, hheap, hcs⟩
  have HD := Lib.hid hDig
  have hcell : ∀ j, j < nd → w1.cell? ⟨g, j, none⟩ = some (.int .u8 ((digs d).getD j 0)) := fun j hj => (cell_of_row w1 g j _ _ _ hheap).trans (hcs j hj)
  have HC := Lib.hid hcell
  clear hcell hDig hheap hcs hw1 hF dk v' n
  go_wp2_with fail
  go_loop [3] (fun s3 => ∃ k : Nat, k ≤ nd ∧ s3 = .int .i64 k ∧ nzAt (digs d) k = nzAt (digs d) nd) (fun s3 => (intOf s3).toNat)
  case atStart => exact ⟨nd, Nat.le_refl _, rfl, rfl⟩
  case round =>
    obtain ⟨k, hk, rfl, hnz⟩ := hrel
    have Hz := Lib.hid hnz
    clear hnz
    rcases Nat.eq_zero_or_pos k with rfl | hpos
    · go_wp2
      go_ret2
      have hr : ((nzAt (digs d) nd : Nat) : Int) = 0 := by rw [← Hz.out]; rfl
      exact ⟨by rw [hr]; rfl, HD.out⟩
    · obtain ⟨j, rfl⟩ : ∃ j, k = j + 1 := ⟨k - 1, by omega⟩
      have hc := HC.out j (by omega)
      have hj1 : ((j + 1 : Nat) : Int) - 1 = (j : Int) := by omega
      by_cases h48 : (digs d).getD j 0 = 48
      · rw [h48] at hc
        go_wp2
        go_round
        case rel => exact ⟨j, by omega, rfl, by rw [← Hz.out, nzAt_same _ _ h48]⟩
        case measure => simp [intOf]
      · have h49 := Lib.hid h48
        clear h48
        obtain ⟨z, hz⟩ : ∃ z, (digs d).getD j 0 = z := ⟨_, rfl⟩
        rw [hz] at hc
        have Hzz := Lib.hid hz
        have hne : (z == 48) = false := by rw [beq_eq_false_iff_ne, ← Hzz.out]; exact h49.out
        clear hz
        go_wp2
        go_ret2
        exact ⟨by rw [← Hz.out, nzAt_end _ _ h49.out]; rfl, HD.out⟩
end Go.Proofs.YtdfodfflkmcgpaaGreatDoor
