/- The exponent form of a floating number of more digits than one, and of zero. -/
import Derived.Test.YtdfodfflkmcgpaaGreatDoorA7
namespace Go.Proofs.YtdfodfflkmcgpaaGreatDoor
open Go.RowKit
set_option linter.unusedVariables false
set_option linter.unusedSimpArgs false
set_option maxRecDepth 100000 in
set_option maxHeartbeats 800000 in
theorem efg_more {B : Nat} (neg : Bool) (w0 : World) (v : Value) (n : Nat) (xs : List Value) (g : Nat) (cs : Array Value) (dp nd : Int) (hO : Out B w0 w0 v n xs) (hn : n ≤ 1000) (hbuf : w0.heap[g]? = some (.cells cs 178 (0, 0))) (h0 : -400 ≤ dp) (h1 : dp ≤ 400) (b0 : Int) (hb0 : cs[0]? = some (.int .u8 b0))
    (hnd : 2 ≤ nd) (hnd2 : nd ≤ 20) (hnd0 : (nd != 0) = true) (ds : List Int) (hds : ds.length = nd.toNat - 1) (hdc : ∀ j u, (ds.map (Value.int .u8))[j]? = some u → cs[1 + j]? = some u) :
    Calls Tryz.prog 172 #[v, .bool neg, .slice (some ⟨g, 0, none⟩) 32 32, .int .i64 dp, .int .i64 nd, .int .i64 (nd - 1), .int .u8 101, .bool true] w0 (Appended B w0 n xs (signOf neg ++ [b0, 46] ++ ds ++ [101] ++ expText (dp - 1))) := by
  have hc := buf_cell (Keep.refl w0) hbuf (by decide) 0 _ hb0
  have hx0 : -(dp - 1) < 1000 := by omega
  have hx1 : dp - 1 < 1000 := by omega
  cases neg
  all_goals
    go_enter Tryz.func172, Tryz.ntmps172
    go_wp2_with (at_builtin; first | (refine app_lit rfl _ _ rfl rfl (by assumption) rfl (by simp [Value.oneCell']) (by simp; omega) ?_; intro v1 w1 hO1; have hc := buf_cell hO1.keep hbuf (by decide) 0 _ hb0) | (refine app_own rfl _ _ rfl rfl (by assumption) _ _ _ (ds.map (Value.int .u8)) rfl ?hl ?hnews ?h1 ?hn ?h; (case hl => (rw [List.length_map]; omega)); (case hnews => (intro j u hj; rw [Lib.add_plain]; refine buf_cell (Out.keep (by assumption)) hbuf (by decide) _ _ (hdc j u hj))); (case h1 => (intro u hu; obtain ⟨z, _, rfl⟩ := List.mem_map.1 hu; rfl)); (case hn => (simp; omega)); (intro v1 w1 hO1)))
    refine wp_loop_rounds 1 ?_
    rw [rounds_succ]
    go_wp2_with (at_builtin; refine app_lit rfl _ _ rfl rfl (by assumption) rfl (by simp [Value.oneCell']) (by simp; omega) ?_; intro v1 w1 hO1)
    all_goals
      go_ret
      first
        | rw [expN1 (x := dp - 1) (by assumption) (by assumption)]
        | rw [expN2 (x := dp - 1) (by assumption) (by assumption) (by assumption)]
        | rw [expN3 (x := dp - 1) (by assumption) (by assumption) (by assumption) (by assumption)]
        | rw [expP1 (x := dp - 1) (by assumption) (by assumption)]
        | rw [expP2 (x := dp - 1) (by assumption) (by assumption) (by assumption)]
        | rw [expP3 (x := dp - 1) (by assumption) (by assumption) (by assumption) (by assumption)]
      exact ⟨_, rfl, Out.to (by assumption) (by simp [signOf]; omega) (by simp [signOf])⟩

set_option maxRecDepth 100000 in
set_option maxHeartbeats 800000 in
theorem efg_zero {B : Nat} (neg : Bool) (w0 : World) (v : Value) (n : Nat) (xs : List Value) (hO : Out B w0 w0 v n xs) (hn : n ≤ 1000) :
    Calls Tryz.prog 172 #[v, .bool neg, .slice none 0 0, .int .i64 0, .int .i64 0, .int .i64 (-1), .int .u8 101, .bool true] w0 (Appended B w0 n xs (signOf neg ++ [48, 101, 43, 48, 48])) := by
  cases neg
  all_goals
    go_enter Tryz.func172, Tryz.ntmps172
    go_wp2_with (at_builtin; refine app_lit rfl _ _ rfl rfl (by assumption) rfl (by simp [Value.oneCell']) (by simp; omega) ?_; intro v1 w1 hO1)
    all_goals
      go_ret
      exact ⟨_, rfl, Out.to (by assumption) (by simp [signOf]) (by simp [signOf])⟩
end Go.Proofs.YtdfodfflkmcgpaaGreatDoor
