/- nums.floating: a floating number as a text, out of the library's exponent form. -/
import Derived.Test.YtdfodfflkmcgpaaGreatDoorB4
import Derived.Lib.SmallJoins
namespace Go.Proofs.YtdfodfflkmcgpaaGreatDoor
open Go.RowKit Go.Sort
set_option linter.unusedVariables false
theorem unary_neg_float (k : FloatKind) (b : Nat) : Op.unary .neg (.float k b) = pure (.float k (Op.negFloat k b)) := rfl
attribute [local go_sem] unary_neg_float
theorem cut_to {B : Nat} (s : ByteArray) (sep : UInt8) (w : World) (hG : Good B w) (hs : s.size < 4000000) (a b : List UInt8) (k : Bool) (hc : Lib.cut s.data.toList [sep] = (a, b, k)) :
    Calls Tryz.prog 65 #[.string s, .string ⟨#[sep]⟩] w fun e w' => ∃ sa sb : ByteArray, e = .returned (.tuple #[.string sa, .string sb, .bool k]) ∧ Hid (sa.data.toList = a) ∧ Hid (sb.data.toList = b) ∧ Below B w w' := by
  obtain ⟨m, hm⟩ := hG.maxLen
  refine (Tryz.strings_Cut s ⟨#[sep]⟩ m w (by omega) hm).mono fun e w' h => ?_
  obtain ⟨h1, n, h2⟩ := h
  have e1 : (ByteArray.mk #[sep]).data.toList = [sep] := rfl
  rw [e1, hc] at h1
  exact ⟨⟨a.toArray⟩, ⟨b.toArray⟩, h1, Lib.hid (by simp), Lib.hid (by simp), by rw [h2]; exact below_drewN (Below.refl _ _) n⟩
theorem replace_to {B : Nat} (s : ByteArray) (c : UInt8) (n : Int) (w : World) (hG : Good B w) (hB : B ≤ w.heap.size) (hs : s.size < 4000000) :
    Calls Tryz.prog 77 #[.string s, .string ⟨#[c]⟩, .string ⟨#[]⟩, .int .i64 n] w fun e w' => ∃ r : ByteArray, e = .returned (.string r) ∧ Hid (r.data.toList = Lib.replace s.data.toList [c] [] n) ∧ Below B w w' := by
  obtain ⟨m, hm⟩ := hG.maxLen
  refine (Tryz.strings_Replace s ⟨#[c]⟩ ⟨#[]⟩ n m w (by omega) hm (Nat.le_refl 1) (by rw [show (ByteArray.mk #[]).size = 0 from rfl, Nat.mul_zero]; omega)).mono fun e w' h => ?_
  exact ⟨_, h.1, Lib.hid (by simp), h.2.mono hB⟩
theorem bw_below {B : Nat} {w w' : World} (hB : B ≤ w.heap.size) (t : ByteArray) (h : w' = Lib.bytesWorld w 5 t) : Below B w w' := by
  subst h
  exact Joins.below_bytesWorld B w 5 t hB
theorem atoi_to {B : Nat} (s : ByteArray) (n : Int) (w : World) (hB : B ≤ w.heap.size) (hs : s.size ≤ 18) (h : Lib.atoi s.data.toList = some n) :
    Calls Tryz.prog 75 #[.string s] w fun e w' => e = .returned (.tuple #[.int .i64 n, .nilIface]) ∧ Below B w w' :=
  (Tryz.strconv_Atoi s n hs h w).mono fun e w' ⟨h1, t, h2⟩ => ⟨h1, bw_below hB t h2⟩
theorem laidL_length (D : List UInt8) (x : Int) (hD : D.length ≤ 30) (h0 : -400 ≤ x) (h1 : x ≤ 400) : (laidL D x).length ≤ 1000 := by
  have i1 := Lib.itoa_length_le x (by omega) (by omega)
  have i2 := Lib.itoa_length_le (-x) (by omega) (by omega)
  unfold laidL
  split
  · simp [Lib.repeatL_length]; omega
  · split
    · simp; omega
    · split
      · simp [Lib.repeatL_length]; omega
      · simp only [List.length_append]
        split <;> split <;> simp <;> omega

set_option maxRecDepth 100000 in
set_option maxHeartbeats 800000 in
/-- a number that is finite and not 0: the parts of the exponent form, laid out anew. -/
theorem floating_fin {B : Nat} (b : Nat) (wd : Int) (w : World) (hG : Good B w) (hB : B ≤ w.heap.size) (S S' : ByteArray) (hS : 1 ≤ S.size) (hS2 : S.size ≤ 40) (neg : Bool)
   (c1 : (FloatKind.f64.format.order b b != some Ordering.eq) = false) (c2 : (FloatKind.f64.format.order b 9218868437227405311 == some Ordering.gt) = false) (c3 : (FloatKind.f64.format.order (Op.negFloat .f64 b) 9218868437227405311 == some Ordering.gt) = false) (c4 : (FloatKind.f64.format.order b 0 == some Ordering.eq) = false)
   (HF : Hid (∀ W, Good B W → B ≤ W.heap.size → Calls Tryz.prog 74 #[.float .f64 b, .int .u8 101, .int .i64 (-1), .int .i64 wd] W fun e w' => e = .returned (.string S) ∧ Below B W w'))
   (hneg : ((S[0].toNat : Int) == 45) = neg) (hS' : Hid (S' = if neg then S.extract 1 S.size else S)) (m e : List UInt8) (at_ : Int) (hcut : Hid (Lib.cut S'.data.toList [101] = (m, e, true))) (he : Hid (e.length ≤ 18)) (hat : Hid (Lib.atoi e = some at_)) (hm : Hid (m.length ≤ 30)) (ha0 : -400 ≤ at_) (ha1 : at_ ≤ 400)
   (D : List UInt8) (hD : Hid (Lib.replace m [46] [] 1 = D)) (hD0 : Hid (1 ≤ D.length ∧ D.length ≤ 30)) :
    Calls Tryz.prog 40 #[.float .f64 b, .int .i64 wd] w fun e w' => e = .returned (.string ⟨((if neg then [45] else []) ++ laidL D at_).toArray⟩) ∧ Below B w w' := by
  have hS3 : S'.size ≤ 40 := by
    rw [hS'.out]; cases neg
    · exact hS2
    · show (S.extract 1 S.size).size ≤ 40
      rw [ByteArray.size_extract]; omega
  cases neg
  · have hSS : S' = S := by have := hS'.out; simpa using this
    subst hSS
    go_enter Tryz.func40, Tryz.ntmps40
    go_wp2_with (first | (go_at_call 72; go_in) | (go_at_call 73; go_in))
    refine (HF.out _ hG hB).mono ?_
    rintro e' w1 ⟨rfl, hb1⟩
    have hG1 := hG.below hb1
    have hB1 := Nat.le_trans hB hb1.size
    go_wp2_with fail
    refine (cut_to _ _ _ hG1 (by omega) m e true hcut.out).mono ?_
    rintro e' w2 ⟨sa, sb, rfl, hsa, hsb, hb2⟩
    have hG2 := hG1.below hb2
    have hB2 := Nat.le_trans hB1 hb2.size
    go_wp2_with fail
    refine (atoi_to sb at_ w2 hB2 (by rw [← size_list, hsb.out]; exact he.out) (by rw [hsb.out]; exact hat.out)).mono ?_
    rintro e' w3 ⟨rfl, hb3⟩
    have hG3 := hG2.below hb3
    have hB3 := Nat.le_trans hB2 hb3.size
    go_wp2_with fail
    refine (replace_to sa 46 1 w3 hG3 hB3 (by have := hm.out; rw [← hsa.out, size_list] at this; omega)).mono ?_
    rintro e' w4 ⟨r, rfl, hr, hb4⟩
    have hG4 := hG3.below hb4
    have hB4 := Nat.le_trans hB3 hb4.size
    have hrD : r.data.toList = D := by rw [hr.out, hsa.out]; exact hD.out
    have HrD := Lib.hid hrD
    have hrs : r.size = D.length := by rw [← hrD, size_list]
    have hr0 : 1 ≤ r.size := by rw [hrs]; exact hD0.out.1
    have hr1 : r.size ≤ 30 := by rw [hrs]; exact hD0.out.2
    clear hrD hrs
    go_wp2_with fail
    refine (laid_any r at_ w4 hG4 hB4 hr0 hr1 ha0 ha1).mono ?_
    rintro e' w5 ⟨rfl, hb5⟩
    rw [HrD.out]
    have hl : (laidL D at_).length ≤ 1000 := laidL_length D at_ hD0.out.2 ha0 ha1
    have hl2 : (ByteArray.mk (laidL D at_).toArray).size ≤ 1000 := by show (laidL D at_).toArray.size ≤ 1000; rw [List.size_toArray]; exact hl
    obtain ⟨L, hL⟩ : ∃ L : ByteArray, L = ⟨(laidL D at_).toArray⟩ := ⟨_, rfl⟩
    have hLd : L.data.toList = laidL D at_ := by rw [hL]
    rw [← hL] at hl2 ⊢
    have HLd := Lib.hid hLd
    clear hL hLd
    go_wp2_with fail
    go_ret
    exact ⟨ret_str (by simp [HLd.out]), (((hb1.trans hb2).trans hb3).trans hb4).trans hb5⟩
  · have hSS : S' = S.extract 1 S.size := by have := hS'.out; simpa using this
    subst hSS
    go_enter Tryz.func40, Tryz.ntmps40
    go_wp2_with (first | (go_at_call 72; go_in) | (go_at_call 73; go_in))
    refine (HF.out _ hG hB).mono ?_
    rintro e' w1 ⟨rfl, hb1⟩
    go_wp2_with fail
    go_quiet (fail)
    have hG1 := hG.below (below_drewN hb1 nq)
    have hB1 : B ≤ (w1.drewN nq).heap.size := Nat.le_trans hB hb1.size
    go_wp2_with fail
    refine (cut_to _ _ _ hG1 (by omega) m e true hcut.out).mono ?_
    rintro e' w2 ⟨sa, sb, rfl, hsa, hsb, hb2⟩
    have hG2 := hG1.below hb2
    have hB2 := Nat.le_trans hB1 hb2.size
    go_wp2_with fail
    refine (atoi_to sb at_ w2 hB2 (by rw [← size_list, hsb.out]; exact he.out) (by rw [hsb.out]; exact hat.out)).mono ?_
    rintro e' w3 ⟨rfl, hb3⟩
    have hG3 := hG2.below hb3
    have hB3 := Nat.le_trans hB2 hb3.size
    go_wp2_with fail
    refine (replace_to sa 46 1 w3 hG3 hB3 (by have := hm.out; rw [← hsa.out, size_list] at this; omega)).mono ?_
    rintro e' w4 ⟨r, rfl, hr, hb4⟩
    have hG4 := hG3.below hb4
    have hB4 := Nat.le_trans hB3 hb4.size
    have hrD : r.data.toList = D := by rw [hr.out, hsa.out]; exact hD.out
    have HrD := Lib.hid hrD
    have hrs : r.size = D.length := by rw [← hrD, size_list]
    have hr0 : 1 ≤ r.size := by rw [hrs]; exact hD0.out.1
    have hr1 : r.size ≤ 30 := by rw [hrs]; exact hD0.out.2
    clear hrD hrs
    go_wp2_with fail
    refine (laid_any r at_ w4 hG4 hB4 hr0 hr1 ha0 ha1).mono ?_
    rintro e' w5 ⟨rfl, hb5⟩
    rw [HrD.out]
    have hl : (laidL D at_).length ≤ 1000 := laidL_length D at_ hD0.out.2 ha0 ha1
    have hl2 : (ByteArray.mk (laidL D at_).toArray).size ≤ 1000 := by show (laidL D at_).toArray.size ≤ 1000; rw [List.size_toArray]; exact hl
    obtain ⟨L, hL⟩ : ∃ L : ByteArray, L = ⟨(laidL D at_).toArray⟩ := ⟨_, rfl⟩
    have hLd : L.data.toList = laidL D at_ := by rw [hL]
    rw [← hL] at hl2 ⊢
    have HLd := Lib.hid hLd
    clear hL hLd
    go_wp2_with fail
    go_ret
    exact ⟨ret_str (by simp [HLd.out]), ((((below_drewN hb1 nq).trans hb2).trans hb3).trans hb4).trans hb5⟩

theorem floating_nan {B : Nat} (b : Nat) (wd : Int) (w : World) (c1 : (FloatKind.f64.format.order b b != some Ordering.eq) = true) :
    Calls Tryz.prog 40 #[.float .f64 b, .int .i64 wd] w fun e w' => e = .returned (.string ⟨#[78, 97, 78]⟩) ∧ Below B w w' := by
  go_enter Tryz.func40, Tryz.ntmps40
  go_wp2_with (first | (go_at_call 72; go_in) | (go_at_call 73; go_in))
  go_ret
  exact ⟨rfl, Below.refl _ _⟩
theorem floating_inf {B : Nat} (b : Nat) (wd : Int) (w : World) (c1 : (FloatKind.f64.format.order b b != some Ordering.eq) = false) (c2 : (FloatKind.f64.format.order b 9218868437227405311 == some Ordering.gt) = true) :
    Calls Tryz.prog 40 #[.float .f64 b, .int .i64 wd] w fun e w' => e = .returned (.string ⟨#[73, 110, 102, 105, 110, 105, 116, 121]⟩) ∧ Below B w w' := by
  go_enter Tryz.func40, Tryz.ntmps40
  go_wp2_with (first | (go_at_call 72; go_in) | (go_at_call 73; go_in))
  go_ret
  exact ⟨rfl, Below.refl _ _⟩
theorem floating_ninf {B : Nat} (b : Nat) (wd : Int) (w : World) (c1 : (FloatKind.f64.format.order b b != some Ordering.eq) = false) (c2 : (FloatKind.f64.format.order b 9218868437227405311 == some Ordering.gt) = false) (c3 : (FloatKind.f64.format.order (Op.negFloat .f64 b) 9218868437227405311 == some Ordering.gt) = true) :
    Calls Tryz.prog 40 #[.float .f64 b, .int .i64 wd] w fun e w' => e = .returned (.string ⟨#[45, 73, 110, 102, 105, 110, 105, 116, 121]⟩) ∧ Below B w w' := by
  go_enter Tryz.func40, Tryz.ntmps40
  go_wp2_with (first | (go_at_call 72; go_in) | (go_at_call 73; go_in))
  go_ret
  exact ⟨rfl, Below.refl _ _⟩
set_option maxRecDepth 100000 in
set_option maxHeartbeats 800000 in
theorem floating_zero {B : Nat} (b : Nat) (wd : Int) (w : World) (hG : Good B w) (hB : B ≤ w.heap.size) (S : ByteArray) (hS : 1 ≤ S.size) (hS2 : S.size ≤ 40) (neg : Bool)
   (c1 : (FloatKind.f64.format.order b b != some Ordering.eq) = false) (c2 : (FloatKind.f64.format.order b 9218868437227405311 == some Ordering.gt) = false) (c3 : (FloatKind.f64.format.order (Op.negFloat .f64 b) 9218868437227405311 == some Ordering.gt) = false) (c4 : (FloatKind.f64.format.order b 0 == some Ordering.eq) = true)
   (HF : Hid (∀ W, Good B W → B ≤ W.heap.size → Calls Tryz.prog 74 #[.float .f64 b, .int .u8 101, .int .i64 (-1), .int .i64 wd] W fun e w' => e = .returned (.string S) ∧ Below B W w'))
   (hneg : ((S[0].toNat : Int) == 45) = neg) :
    Calls Tryz.prog 40 #[.float .f64 b, .int .i64 wd] w fun e w' => e = .returned (.string ⟨(((if neg then [45] else []) ++ [48] : List UInt8)).toArray⟩) ∧ Below B w w' := by
  cases neg
  · go_enter Tryz.func40, Tryz.ntmps40
    go_wp2_with (first | (go_at_call 72; go_in) | (go_at_call 73; go_in))
    refine (HF.out _ hG hB).mono ?_
    rintro e' w1 ⟨rfl, hb1⟩
    go_wp2_with fail
    go_ret
    exact ⟨ret_str (by simp), hb1⟩
  · go_enter Tryz.func40, Tryz.ntmps40
    go_wp2_with (first | (go_at_call 72; go_in) | (go_at_call 73; go_in))
    refine (HF.out _ hG hB).mono ?_
    rintro e' w1 ⟨rfl, hb1⟩
    go_wp2_with fail
    go_quiet (fail)
    go_wp2_with fail
    go_ret
    exact ⟨ret_str (by simp), below_drewN hb1 _⟩
end Go.Proofs.YtdfodfflkmcgpaaGreatDoor
