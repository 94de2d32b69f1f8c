/- strconv.FormatFloat in the exponent form, of both widths: the text that ftoa lays out. -/
import Derived.Test.YtdfodfflkmcgpaaGreatDoorB2
import Derived.Laws.BytesArg
import Derived.Laws.OwnMore
namespace Go.Proofs.YtdfodfflkmcgpaaGreatDoor
open Go.RowKit Go.Sort
set_option linter.unusedVariables false
theorem run_make24 (w : World) : (Instr.makeSlice 43 (.int .i64 0) (.int .i64 24)).run Tryz.prog w = .ok (.slice (some ⟨w.heap.size, 0, none⟩) 0 24) (w.alloc (.cells (Array.replicate 24 (.int .u8 0)) 5)) := by kernel_rfl
theorem own_bytes {w : World} {B n : Nat} {v : Value} {out : List Int} (h : w.ownsRow B 5 1 v n (out.map (Value.int .u8))) (hn : 0 < n) :
    ∃ g cap, v = .slice (some ⟨g, 0, none⟩) n cap ∧ ∀ i, i < n → w.cell? ⟨g, 0 + i, none⟩ = some (.int .u8 (out.getD i 0)) := by
  have hf : ∃ g cap, v = .slice (some ⟨g, 0, none⟩) n cap := by
    rcases h.2 with ⟨_, h0⟩ | ⟨g, cap, cur, hv, _⟩
    · omega
    · exact ⟨g, cap, hv⟩
  obtain ⟨g, cap, hv⟩ := hf
  refine ⟨g, cap, hv, fun i hi => ?_⟩
  have hl : out.length = n := by have := h.1; simpa using this
  have := h.cells (g := g) (by rw [hv]; rfl) i (.int .u8 (out.getD i 0)) (by rw [List.getElem?_map, List.getD_eq_getElem?_getD, List.getElem?_eq_getElem (by omega)]; rfl)
  rwa [Lib.add_plain] at this
theorem fresh_out {B : Nat} (w : World) (hB : B ≤ w.heap.size) : Out B (w.alloc (.cells (Array.replicate 24 (.int .u8 0)) 5)) (w.alloc (.cells (Array.replicate 24 (.int .u8 0)) 5)) (.slice (some ⟨w.heap.size, 0, none⟩) 0 24) 0 [] :=
  ⟨World.ownsRow_made w _ 24 hB (by unfold maxLen; omega) (by simp), Below.refl _ _, Keep.refl _, by simp; omega⟩
theorem under9 : Tryz.prog.underlying 9 = some .string := by kernel_rfl
set_option maxRecDepth 100000 in
set_option maxHeartbeats 400000 in
theorem format64_any {B : Nat} (b : Nat) (w : World) (hG : Good B w) (hB : B ≤ w.heap.size) (out : List Int) (ho : 0 < out.length)
   (H : ∀ (v : Value) (W : World), Good B W → Out B W W v 0 [] → Calls Tryz.prog 145 #[v, .float .f64 b, .int .u8 101, .int .i64 (-1)] W (Appended B W 0 [] out)) :
    Calls Tryz.prog 112 #[.float .f64 b, .int .u8 101, .int .i64 (-1), .int .i64 64] w fun e w' => e = .returned (.string (strOfNums out)) ∧ Below B w w' := by
  have HH := Lib.hid H
  clear H
  have hmk := run_make24
  have hmax : max (3 : Int) 24 = 24 := rfl
  go_enter Tryz.func112, Tryz.ntmps112
  go_wp2_with fail
  refine (HH.out _ _ (hG.alloc hB _) (fresh_out w hB)).mono ?_
  rintro e' w1 ⟨v1, rfl, hO1⟩
  have hb1 : Below B w w1 := ((Below.refl _ _).alloc hB _).trans hO1.below
  have hown := hO1.own
  simp only [List.nil_append, Nat.zero_add] at hown
  obtain ⟨g, cap, hv, hcell⟩ := own_bytes hown ho
  have hcv := run_convert_bytes_arg (P := Tryz.prog) w1 43 5 Tryz.underlying43 Tryz.underlying5 g 0 out.length cap out rfl hcell 9 under9
  rw [hv]
  clear hcell hown hO1 hv
  go_wp2_with fail
  go_ret
  exact ⟨rfl, hb1⟩
set_option maxRecDepth 100000 in
set_option maxHeartbeats 400000 in
theorem format32_any {B : Nat} (b x : Nat) (w : World) (hG : Good B w) (hB : B ≤ w.heap.size) (out : List Int) (ho : 0 < out.length)
   (hx : ∀ w, (convert 59 60 (.float .f64 x)).run Tryz.prog w = .ok (.float .f32 b) w)
   (H : ∀ (v : Value) (W : World), Good B W → Out B W W v 0 [] → Calls Tryz.prog 144 #[v, .float .f32 b, .int .u8 101, .int .i64 (-1)] W (Appended B W 0 [] out)) :
    Calls Tryz.prog 112 #[.float .f64 x, .int .u8 101, .int .i64 (-1), .int .i64 32] w fun e w' => e = .returned (.string (strOfNums out)) ∧ Below B w w' := by
  have HH := Lib.hid H
  clear H
  have hmk := run_make24
  have hmax : max (3 : Int) 24 = 24 := rfl
  go_enter Tryz.func112, Tryz.ntmps112
  go_wp2_with fail
  refine (HH.out _ _ (hG.alloc hB _) (fresh_out w hB)).mono ?_
  rintro e' w1 ⟨v1, rfl, hO1⟩
  have hb1 : Below B w w1 := ((Below.refl _ _).alloc hB _).trans hO1.below
  have hown := hO1.own
  simp only [List.nil_append, Nat.zero_add] at hown
  obtain ⟨g, cap, hv, hcell⟩ := own_bytes hown ho
  have hcv := run_convert_bytes_arg (P := Tryz.prog) w1 43 5 Tryz.underlying43 Tryz.underlying5 g 0 out.length cap out rfl hcell 9 under9
  rw [hv]
  clear hcell hown hO1 hv
  go_wp2_with fail
  go_ret
  exact ⟨rfl, hb1⟩
/-- the public call hands on. -/
theorem format_public {B : Nat} (x : Nat) (wd : Int) (s : ByteArray) (w : World) (h : Calls Tryz.prog 112 #[.float .f64 x, .int .u8 101, .int .i64 (-1), .int .i64 wd] w fun e w' => e = .returned (.string s) ∧ Below B w w') :
    Calls Tryz.prog 74 #[.float .f64 x, .int .u8 101, .int .i64 (-1), .int .i64 wd] w fun e w' => e = .returned (.string s) ∧ Below B w w' := by
  have HH := Lib.hid h
  clear h
  go_enter Tryz.func74, Tryz.ntmps74
  go_wp2_with fail
  refine HH.out.mono ?_
  rintro e' w1 ⟨rfl, hR⟩
  go_wp2_with fail
  go_ret
  exact ⟨rfl, hR⟩
end Go.Proofs.YtdfodfflkmcgpaaGreatDoor
