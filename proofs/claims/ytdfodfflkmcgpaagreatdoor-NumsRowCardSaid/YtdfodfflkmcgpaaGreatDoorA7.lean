/- The exponent form of a floating number: what fmtEFG appends, of one digit, of more, of none. -/
import Derived.Test.YtdfodfflkmcgpaaGreatDoorA6
import Derived.LoopTactic
namespace Go.Proofs.YtdfodfflkmcgpaaGreatDoor
open Go.RowKit
set_option linter.unusedVariables false
set_option linter.unusedSimpArgs false
theorem buf_cell {w0 w : World} {g : Nat} {cs : Array Value} {t : TypeId} {fz : Nat × Nat} (hk : Keep w0 w) (hb : w0.heap[g]? = some (.cells cs t fz)) (ht : t ≠ 5) (j : Nat) (u : Value) (hj : cs[j]? = some u) : w.cell? ⟨g, j, none⟩ = some u := by
  rw [World.cell?_of_block (w := w0) (by rw [hk g cs t fz ht hb, hb])]
  exact (cell_of_row w0 g j cs t fz hb).trans hj
theorem Out.to {B : Nat} {w0 w : World} {v : Value} {n m : Nat} {xs ys : List Value} (h : Out B w0 w v n xs) (hn : n = m) (hl : xs = ys) : Out B w0 w v m ys := by subst hn hl; exact h
/-- the digits of an exponent, with its sign. -/
def expText (x : Int) : List Int :=
  if x < 0 then 45 :: (if -x < 10 then [48, -x + 48] else if -x < 100 then [-x / 10 + 48, -x % 10 + 48] else [-x / 100 + 48, -x / 10 % 10 + 48, -x % 10 + 48])
  else 43 :: (if x < 10 then [48, x + 48] else if x < 100 then [x / 10 + 48, x % 10 + 48] else [x / 100 + 48, x / 10 % 10 + 48, x % 10 + 48])
def signOf (neg : Bool) : List Int := if neg then [45] else []
def Appended (B : Nat) (w0 : World) (n : Nat) (xs : List Value) (out : List Int) (e : Ending) (w' : World) : Prop := ∃ v', e = .returned v' ∧ Out B w0 w' v' (n + out.length) (xs ++ out.map (Value.int .u8))

theorem neg_tdiv_pos {x k : Int} (hx : x < 0) (hk : 0 < k) : -(x.tdiv k) = -x / k := by
  rw [← Int.neg_tdiv, Int.tdiv_eq_ediv_of_nonneg (by omega)]
theorem neg_tmod_pos {x k : Int} (hx : x < 0) (hk : 0 < k) : -(x.tmod k) = -x % k := by
  rw [← Int.neg_tmod, Int.tmod_eq_emod_of_nonneg (by omega)]
theorem expN1 {x : Int} (h : x < 0) (h1 : -x < 10) : expText x = [45, 48, -x + 48] := by unfold expText; rw [if_pos h, if_pos h1]
theorem expN2 {x : Int} (h : x < 0) (h1 : 10 ≤ -x) (h2 : -x < 100) : expText x = [45, (wrap64 (-x.tdiv 10) + 48) % 256, (-x.tmod 10 + 48) % 256] := by
  unfold expText; rw [if_pos h, if_neg (by omega), if_pos h2, neg_tdiv_pos h (by omega), neg_tmod_pos h (by omega)]
  unfold wrap64
  generalize -x = y at *
  have e1 : y / 10 + 48 = ((y / 10 + 9223372036854775808) % 18446744073709551616 - 9223372036854775808 + 48) % 256 := by omega
  have e2 : y % 10 + 48 = (y % 10 + 48) % 256 := by omega
  rw [← e1, ← e2]
theorem expN3 {x : Int} (h : x < 0) (h1 : 10 ≤ -x) (h2 : 100 ≤ -x) (h3 : -x < 1000) : expText x = [45, (wrap64 (-x.tdiv 100) + 48) % 256, wrap64 (-x.tdiv 10) % 256 % 10 + 48, (-x.tmod 10 + 48) % 256] := by
  unfold expText; rw [if_pos h, if_neg (by omega), if_neg (by omega), neg_tdiv_pos h (by omega), neg_tdiv_pos h (by omega), neg_tmod_pos h (by omega)]
  unfold wrap64
  generalize -x = y at *
  have e1 : y / 100 + 48 = ((y / 100 + 9223372036854775808) % 18446744073709551616 - 9223372036854775808 + 48) % 256 := by omega
  have e2 : y % 10 + 48 = (y % 10 + 48) % 256 := by omega
  have e3 : y / 10 % 10 = ((y / 10 + 9223372036854775808) % 18446744073709551616 - 9223372036854775808) % 256 % 10 := by omega
  rw [← e1, ← e2, ← e3]
theorem expP1 {x : Int} (h : 0 ≤ x) (h1 : x < 10) : expText x = [43, 48, x + 48] := by unfold expText; rw [if_neg (by omega), if_pos h1]
theorem expP2 {x : Int} (h : 0 ≤ x) (h1 : 10 ≤ x) (h2 : x < 100) : expText x = [43, x / 10 + 48, x % 10 + 48] := by unfold expText; rw [if_neg (by omega), if_neg (by omega), if_pos h2]
theorem expP3 {x : Int} (h : 0 ≤ x) (h1 : 10 ≤ x) (h2 : 100 ≤ x) (h3 : x < 1000) : expText x = [43, x / 100 + 48, x / 10 % 10 + 48, x % 10 + 48] := by unfold expText; rw [if_neg (by omega), if_neg (by omega), if_neg (by omega)]

set_option maxRecDepth 100000 in
set_option maxHeartbeats 800000 in
theorem efg_one {B : Nat} (neg : Bool) (w0 : World) (v : Value) (n : Nat) (xs : List Value) (g : Nat) (cs : Array Value) (dp : Int) (hO : Out B w0 w0 v n xs) (hn : n ≤ 1000) (hbuf : w0.heap[g]? = some (.cells cs 178 (0, 0))) (h0 : -400 ≤ dp) (h1 : dp ≤ 400) (b0 : Int) (hb0 : cs[0]? = some (.int .u8 b0)) :
    Calls Tryz.prog 172 #[v, .bool neg, .slice (some ⟨g, 0, none⟩) 32 32, .int .i64 dp, .int .i64 1, .int .i64 0, .int .u8 101, .bool true] w0 (Appended B w0 n xs (signOf neg ++ [b0, 101] ++ expText (dp - 1))) := by
  have hc := buf_cell (Keep.refl w0) hbuf (by decide) 0 _ hb0
  have hx0 : -(dp - 1) < 1000 := by omega
  have hx1 : dp - 1 < 1000 := by omega
  cases neg
  all_goals
    go_enter Tryz.func172, Tryz.ntmps172
    go_wp2_with (at_builtin; refine app_lit rfl _ _ rfl rfl (by assumption) rfl (by simp [Value.oneCell']) (by simp; omega) ?_; intro v1 w1 hO1; have hc := buf_cell hO1.keep hbuf (by decide) 0 _ hb0)
    all_goals
      go_ret
      have hE : ∃ l, expText (dp - 1) = l := ⟨_, rfl⟩
      first
        | rw [expN1 (x := dp - 1) (by assumption) (by assumption)]
        | rw [expN2 (x := dp - 1) (by assumption) (by assumption) (by assumption)]
        | rw [expN3 (x := dp - 1) (by assumption) (by assumption) (by assumption) (by assumption)]
        | rw [expP1 (x := dp - 1) (by assumption) (by assumption)]
        | rw [expP2 (x := dp - 1) (by assumption) (by assumption) (by assumption)]
        | rw [expP3 (x := dp - 1) (by assumption) (by assumption) (by assumption) (by assumption)]
      exact ⟨_, rfl, Out.to (by assumption) (by simp [signOf]) (by simp [signOf])⟩
end Go.Proofs.YtdfodfflkmcgpaaGreatDoor
