/- Digits of which the first has a power of ten, laid out: nums.laid. -/
import Derived.Test.YtdfodfflkmcgpaaGreatDoorB3
import Derived.Lib.ItoaLen
namespace Go.Proofs.YtdfodfflkmcgpaaGreatDoor
open Go.RowKit Go.Sort
set_option linter.unusedVariables false
theorem gr_below {B : Nat} {w w' : World} (hB : B ≤ w.heap.size) (h : ∃ k os, w' = grow (w.drewN k) os) : Below B w w' := by
  obtain ⟨k, os, rfl⟩ := h
  refine ⟨rfl, rfl, rfl, by simp [grow], fun i hi => ?_⟩
  show ((w.heap ++ os)[i]? : Option Obj) = w.heap[i]?
  rw [Array.getElem?_append_left (by omega)]
theorem repeat_to {B : Nat} (s : ByteArray) (c : Int) (w : World) (hB : B ≤ w.heap.size) (h0 : 0 ≤ c) (h1 : c ≤ 1000) (hs : s.size ≤ 1) :
    Calls Tryz.prog 68 #[.string s, .int .i64 c] w fun e w' => ∃ r : ByteArray, e = .returned (.string r) ∧ Hid (r.data.toList = Lib.repeatL s.data.toList c.toNat) ∧ r.size ≤ 1000 ∧ Below B w w' := by
  obtain ⟨c, rfl⟩ := Int.eq_ofNat_of_zero_le h0
  have hm : s.size * c ≤ 1 * 1000 := Nat.mul_le_mul hs (by omega)
  refine (Tryz.strings_Repeat s c w (by omega) (by omega)).mono fun e w' h => ⟨_, h.1, Lib.hid (by simp), ?_, h.2.mono hB⟩
  show (Lib.repeatL s.data.toList c).toArray.size ≤ 1000
  rw [List.size_toArray, Lib.repeatL_length, Array.length_toList, Nat.mul_comm]
  exact hm
theorem itoa_to {B : Nat} (n : Int) (w : World) (hG : Good B w) (hB : B ≤ w.heap.size) (h0 : -1000 ≤ n) (h1 : n ≤ 1000) :
    Calls Tryz.prog 115 #[.int .i64 n] w fun e w' => ∃ r : ByteArray, e = .returned (.string r) ∧ Hid (r.data.toList = Lib.itoa n) ∧ r.size ≤ 21 ∧ Below B w w' := by
  refine (Tryz.strconv_Itoa n (by omega) (by omega) w hG.u64p).mono fun e w' h => ⟨_, h.1, Lib.hid (by simp), ?_, gr_below hB h.2⟩
  show (Lib.itoa n).toArray.size ≤ 21
  rw [List.size_toArray]
  exact Lib.itoa_length_le n (by omega) (by omega)
theorem ret_str {a b : ByteArray} (h : a.data.toList = b.data.toList) : Ending.returned (.string a) = .returned (.string b) := by
  obtain ⟨⟨a⟩⟩ := a
  obtain ⟨⟨b⟩⟩ := b
  simp at h
  rw [h]
/-- digits, of which the first has a power of ten: how they are laid out. -/
def laidL (d : List UInt8) (x : Int) : List UInt8 :=
  if (d.length : Int) - 1 ≤ x ∧ x ≤ 20 then d ++ Lib.repeatL [48] (x - d.length + 1).toNat
  else if 0 ≤ x ∧ x ≤ 20 then d.take (x + 1).toNat ++ [46] ++ d.drop (x + 1).toNat
  else if x < 0 ∧ -6 ≤ x then [48, 46] ++ Lib.repeatL [48] (-x - 1).toNat ++ d
  else (if 1 < d.length then d.take 1 ++ [46] ++ d.drop 1 else d) ++ [101] ++ (if x < 0 then [45] ++ Lib.itoa (-x) else [43] ++ Lib.itoa x)
theorem size_list (d : ByteArray) : d.data.toList.length = d.size := by rw [ByteArray.size, Array.length_toList]
set_option maxRecDepth 100000 in
set_option maxHeartbeats 400000 in
theorem laid_1 {B : Nat} (d : ByteArray) (x : Int) (w : World) (hG : Good B w) (hB : B ≤ w.heap.size) (hd0 : 1 ≤ d.size) (hd1 : d.size ≤ 30) (h1 : (d.size : Int) - 1 ≤ x) (h2 : x ≤ 20) :
    Calls Tryz.prog 76 #[.string d, .int .i64 x] w fun e w' => e = .returned (.string ⟨(laidL d.data.toList x).toArray⟩) ∧ Below B w w' := by
  go_enter Tryz.func76, Tryz.ntmps76
  go_wp2_with fail
  refine (repeat_to _ _ _ hB (by omega) (by omega) (by decide)).mono ?_
  rintro e' w1 ⟨r, rfl, hr, hrs, hb1⟩
  go_wp2_with fail
  go_ret
  refine ⟨ret_str ?_, hb1⟩
  unfold laidL
  rw [size_list, if_pos ⟨h1, h2⟩]
  simp [hr.out]
set_option maxRecDepth 100000 in
set_option maxHeartbeats 400000 in
theorem laid_2 {B : Nat} (d : ByteArray) (x : Int) (w : World) (hG : Good B w) (hB : B ≤ w.heap.size) (hd0 : 1 ≤ d.size) (hd1 : d.size ≤ 30) (h1 : x < (d.size : Int) - 1) (h2 : 0 ≤ x) (h3 : x ≤ 20) :
    Calls Tryz.prog 76 #[.string d, .int .i64 x] w fun e w' => e = .returned (.string ⟨(laidL d.data.toList x).toArray⟩) ∧ Below B w w' := by
  go_enter Tryz.func76, Tryz.ntmps76
  go_wp2_with fail
  go_quiet (fail)
  go_wp2_with fail
  go_ret
  refine ⟨ret_str ?_, below_drewN (Below.refl _ _) _⟩
  unfold laidL
  rw [size_list, if_neg (by omega), if_pos ⟨h2, h3⟩]
  simp
  rw [List.take_of_length_le (by rw [List.length_drop, size_list]; exact Nat.le_refl _)]
set_option maxRecDepth 100000 in
set_option maxHeartbeats 400000 in
theorem laid_3 {B : Nat} (d : ByteArray) (x : Int) (w : World) (hG : Good B w) (hB : B ≤ w.heap.size) (hd0 : 1 ≤ d.size) (hd1 : d.size ≤ 30) (h1 : x < (d.size : Int) - 1) (h2 : x < 0) (h3 : -6 ≤ x) :
    Calls Tryz.prog 76 #[.string d, .int .i64 x] w fun e w' => e = .returned (.string ⟨(laidL d.data.toList x).toArray⟩) ∧ Below B w w' := by
  go_enter Tryz.func76, Tryz.ntmps76
  go_wp2_with fail
  refine (repeat_to _ _ _ hB (by omega) (by omega) (by decide)).mono ?_
  rintro e' w1 ⟨r, rfl, hr, hrs, hb1⟩
  go_wp2_with fail
  go_ret
  refine ⟨ret_str ?_, hb1⟩
  unfold laidL
  rw [size_list, if_neg (by omega), if_neg (by omega), if_pos ⟨h2, h3⟩]
  simp [hr.out]
set_option maxRecDepth 100000 in
set_option maxHeartbeats 800000 in
theorem laid_4 {B : Nat} (d : ByteArray) (x : Int) (w : World) (hG : Good B w) (hB : B ≤ w.heap.size) (hd0 : 1 ≤ d.size) (hd1 : d.size ≤ 30) (hx0 : -400 ≤ x) (hx1 : x ≤ 400) (h1 : x < -6 ∨ 20 < x) :
    Calls Tryz.prog 76 #[.string d, .int .i64 x] w fun e w' => e = .returned (.string ⟨(laidL d.data.toList x).toArray⟩) ∧ Below B w w' := by
  have hc : (x < 0 ∧ x < (d.size : Int) - 1 ∧ x < -6) ∨ (0 ≤ x ∧ (d.size : Int) - 1 ≤ x ∧ 20 < x) ∨ (0 ≤ x ∧ x < (d.size : Int) - 1 ∧ 20 < x) := by omega
  have h4 : ¬ (((d.size : Int) - 1 ≤ x ∧ x ≤ 20)) := by omega
  have h5 : ¬ (0 ≤ x ∧ x ≤ 20) := by omega
  have h6 : ¬ (x < 0 ∧ -6 ≤ x) := by omega
  have hl : laidL d.data.toList x = (if 1 < d.size then d.data.toList.take 1 ++ [46] ++ d.data.toList.drop 1 else d.data.toList) ++ [101] ++ (if x < 0 then [45] ++ Lib.itoa (-x) else [43] ++ Lib.itoa x) := by
    unfold laidL
    rw [size_list, if_neg h4, if_neg h5, if_neg h6]
  have Hl := Lib.hid hl
  clear hl h4 h5 h6
  rcases hc with ⟨h1, h2, h3⟩ | ⟨h1, h2, h3⟩ | ⟨h1, h2, h3⟩
  all_goals
    by_cases hs : 1 < d.size
    all_goals
      go_enter Tryz.func76, Tryz.ntmps76
      go_wp2_with fail
      try go_quiet (fail)
      go_wp2_with fail
  all_goals
    refine (itoa_to _ _ (by first | exact hG | exact hG.drewN _) (by first | exact hB | (simp; exact hB)) (by omega) (by omega)).mono ?_
    rintro e' w1 ⟨r, rfl, hr, hrs, hb1⟩
    go_wp2_with fail
    go_ret
    refine ⟨ret_str ?_, by first | exact hb1 | exact (below_drewN (Below.refl _ _) _).trans hb1⟩
    have htk : List.take (d.size - 1) d.data.toList.tail = d.data.toList.tail := List.take_of_length_le (by rw [List.length_tail, size_list]; exact Nat.le_refl _)
    have h1' : ¬ (0 ≤ x) ∨ ¬ (x < 0) := by omega
    first
      | (have hx : ¬ x < 0 := by omega
         rw [Hl.out, if_neg hx]
         simp [hr.out, hs, htk])
      | (rw [Hl.out, if_pos (by omega : x < 0)]
         simp [hr.out, hs, htk])
theorem laid_any {B : Nat} (d : ByteArray) (x : Int) (w : World) (hG : Good B w) (hB : B ≤ w.heap.size) (hd0 : 1 ≤ d.size) (hd1 : d.size ≤ 30) (hx0 : -400 ≤ x) (hx1 : x ≤ 400) :
    Calls Tryz.prog 76 #[.string d, .int .i64 x] w fun e w' => e = .returned (.string ⟨(laidL d.data.toList x).toArray⟩) ∧ Below B w w' := by
  by_cases h : x < -6 ∨ 20 < x
  · exact laid_4 d x w hG hB hd0 hd1 hx0 hx1 h
  · by_cases h1 : (d.size : Int) - 1 ≤ x
    · exact laid_1 d x w hG hB hd0 hd1 h1 (by omega)
    · by_cases h2 : 0 ≤ x
      · exact laid_2 d x w hG hB hd0 hd1 (by omega) h2 (by omega)
      · exact laid_3 d x w hG hB hd0 hd1 (by omega) (by omega) (by omega)
end Go.Proofs.YtdfodfflkmcgpaaGreatDoor
