/- Bytes that a call appends to a slice of its own: what is kept beside it, and the law of one append. -/
import Derived.Test.YtdfodfflkmcgpaaGreatDoorZA4
import Derived.Laws.AppendOwn
import Derived.Laws.OwnMore
import Derived.RowKit3
import Derived.LoopTactic
namespace Go.Proofs.YtdfodfflkmcgpaaGreatDoor
open Go.RowKit
set_option linter.unusedVariables false

theorem info5 : (Tryz.prog.info? 5).map (fun i => (i.zero, i.size, i.bytes)) = some (some (.int .u8 0), 1, 1) := by kernel_rfl

/-- every block of another element type stays as it is. -/
def Keep (w w' : World) : Prop := ∀ (g : Nat) (cs : Array Value) (t : TypeId) (fz : Nat × Nat), t ≠ 5 → w.heap[g]? = some (Obj.cells cs t fz) → w'.heap[g]? = some (Obj.cells cs t fz)
theorem Keep.refl (w : World) : Keep w w := fun _ _ _ _ _ h => h
theorem Keep.trans {a b c : World} (h : Keep a b) (k : Keep b c) : Keep a c := fun g cs t fz ht hg => k g cs t fz ht (h g cs t fz ht hg)
theorem heap_lt {w : World} {g : Nat} {o : Obj} (h : w.heap[g]? = some o) : g < w.heap.size := by
  rcases Nat.lt_or_ge g w.heap.size with hlt | hge
  · exact hlt
  · rw [Array.getElem?_eq_none hge] at h; cases h
theorem Keep.alloc {a w : World} (h : Keep a w) (o : Obj) : Keep a (w.alloc o) := fun g cs t fz ht hg => by
  have h1 := h g cs t fz ht hg
  exact (Below.heap_alloc w o g (heap_lt h1)).trans h1
theorem Keep.drewN {a w : World} (h : Keep a w) (n : Nat) : Keep a (w.drewN n) := fun g cs t fz ht hg => h g cs t fz ht hg

/-- the slice value v is the call's own, holds xs; below B, and in blocks of other types, all is as in w0. -/
structure Out (B : Nat) (w0 w : World) (v : Value) (n : Nat) (xs : List Value) : Prop where
  own : w.ownsRow B 5 1 v n xs
  below : Below B w0 w
  keep : Keep w0 w
  base : B ≤ w0.heap.size
theorem Out.size {B : Nat} {w0 w : World} {v : Value} {n : Nat} {xs : List Value} (h : Out B w0 w v n xs) : B ≤ w.heap.size := Nat.le_trans h.base h.below.size
theorem Out.alloc {B : Nat} {w0 w : World} {v : Value} {n : Nat} {xs : List Value} (h : Out B w0 w v n xs) (o : Obj) : Out B w0 (w.alloc o) v n xs :=
  ⟨h.own.alloc o, h.below.alloc h.size o, h.keep.alloc o, h.base⟩
theorem Out.drewN {B : Nat} {w0 w : World} {v : Value} {n : Nat} {xs : List Value} (h : Out B w0 w v n xs) (k : Nat) : Out B w0 (w.drewN k) v n xs :=
  ⟨h.own, below_drewN h.below k, h.keep.drewN k, h.base⟩

theorem own_type {w : World} {B : Nat} {v : Value} {n g : Nat} {xs : List Value} (h : w.ownsRow B 5 1 v n xs) (hg : v.ownBlock = some g) : ∃ cur, w.heap[g]? = some (.cells cur 5 (0, 0)) := by
  rcases h.2 with ⟨rfl, _⟩ | ⟨g', cap, cur, rfl, _, hh, _⟩
  · simp [Value.ownBlock] at hg
  · have : g' = g := by simpa [Value.ownBlock] using hg
    subst this
    exact ⟨cur, hh⟩

theorem app_own {ops : Array Oper} {rest : List Oper} {o : Oper} {a : Act} {Q : Exit → Act → World → Prop} {B : Nat} {w0 w : World} {v : Value} {n : Nat} {xs : List Value}
    (hgd : o.guard = none) (s x : Operand) (ho : o.op = .call { callee := .builtin .append, args := #[s, x], argTypes := #[43, 43] })
    (hs : a.eval s = v) (hO : Out B w0 w v n xs)
    (ad : Addr) (m c : Nat) (news : List Value) (hx : a.eval x = .slice (some ad) m c) (hl : news.length = m) (hnews : ∀ j u, news[j]? = some u → w.cell? (ad.add j) = some u) (h1 : ∀ u ∈ news, u.oneCell' = true)
    (hn : n + m ≤ 140737488355328)
    (h : ∀ v' w', Out B w0 w' v' (n + m) (xs ++ news) → wpList Tryz.prog ops Q rest (a.put o.dst v') w') : wpList Tryz.prog ops Q (o :: rest) a w := by
  obtain ⟨i0, hi, hz0, hz1, hz2⟩ := info_parts info5
  refine wpList_append_own w hgd s x 43 ho B 5 i0 (.int .u8 0) 1 1 Tryz.underlying43 hi hz0 hz1 hz2 rfl (by decide) v n xs hs hO.own ad m c news hx (by omega) hnews h1 (by unfold maxLen; omega) (by omega) hO.size ?_
  intro v' w' hown hg _
  refine h v' w' ⟨hown, hO.below.grown hg hO.size (fun k hk => (hO.own.lt k hk).1), ?_, hO.base⟩
  intro g cs t fz ht hgg
  have h1 := hO.keep g cs t fz ht hgg
  refine (hg.block g (heap_lt h1) ?_).trans h1
  intro he
  obtain ⟨cur, hc⟩ := own_type hO.own he.symm
  rw [h1] at hc
  injection hc with hc
  injection hc with _ hc2
  exact ht hc2

/-- append(dst, c0, c1, ..): the bytes stand in a block that is just made. -/
theorem app_lit {ops : Array Oper} {rest : List Oper} {o : Oper} {a : Act} {Q : Exit → Act → World → Prop} {B : Nat} {w0 w : World} {v : Value} {n : Nat} {xs : List Value} {cs : Array Value}
    (hgd : o.guard = none) (s x : Operand) (ho : o.op = .call { callee := .builtin .append, args := #[s, x], argTypes := #[43, 43] })
    (hs : a.eval s = v) (hO : Out B w0 w v n xs) (hx : a.eval x = .slice (some ⟨w.heap.size, 0, none⟩) cs.size cs.size) (h1 : ∀ u ∈ cs.toList, u.oneCell' = true) (hn : n + cs.size ≤ 140737488355328)
    (h : ∀ v' w', Out B w0 w' v' (n + cs.size) (xs ++ cs.toList) → wpList Tryz.prog ops Q rest (a.put o.dst v') w') : wpList Tryz.prog ops Q (o :: rest) a (w.alloc (.cells cs 5)) := by
  refine app_own hgd s x ho hs (hO.alloc _) ⟨w.heap.size, 0, none⟩ cs.size cs.size cs.toList hx (by simp) ?_ h1 hn h
  intro j u hj
  have e : (⟨w.heap.size, 0, none⟩ : Addr).add j = ⟨w.heap.size, j, none⟩ := by rw [Lib.add_plain]; simp
  rw [e, World.cell?_alloc_new]
  simpa using hj
end Go.Proofs.YtdfodfflkmcgpaaGreatDoor
/- The exponent form of a floating number: what fmtEFG appends, of one digit, of more, of none. -/
namespace Go.Proofs.YtdfodfflkmcgpaaGreatDoor
open Go.RowKit
set_option linter.unusedVariables false
set_option linter.unusedSimpArgs false
theorem buf_cell {w0 w : World} {g : Nat} {cs : Array Value} {t : TypeId} {fz : Nat × Nat} (hk : Keep w0 w) (hb : w0.heap[g]? = some (.cells cs t fz)) (ht : t ≠ 5) (j : Nat) (u : Value) (hj : cs[j]? = some u) : w.cell? ⟨g, j, none⟩ = some u := by
  rw [World.cell?_of_block (w := w0) (by rw [hk g cs t fz ht hb, hb])]
  exact (cell_of_row w0 g j cs t fz hb).trans hj
theorem Out.to {B : Nat} {w0 w : World} {v : Value} {n m : Nat} {xs ys : List Value} (h : Out B w0 w v n xs) (hn : n = m) (hl : xs = ys) : Out B w0 w v m ys := by subst hn hl; exact h
/-- the digits of an exponent, with its sign. -/
def expText (x : Int) : List Int :=
  if x < 0 then 45 :: (if -x < 10 then [48, -x + 48] else if -x < 100 then [-x / 10 + 48, -x % 10 + 48] else [-x / 100 + 48, -x / 10 % 10 + 48, -x % 10 + 48])
  else 43 :: (if x < 10 then [48, x + 48] else if x < 100 then [x / 10 + 48, x % 10 + 48] else [x / 100 + 48, x / 10 % 10 + 48, x % 10 + 48])
def signOf (neg : Bool) : List Int := if neg then [45] else []
def Appended (B : Nat) (w0 : World) (n : Nat) (xs : List Value) (out : List Int) (e : Ending) (w' : World) : Prop := ∃ v', e = .returned v' ∧ Out B w0 w' v' (n + out.length) (xs ++ out.map (Value.int .u8))

theorem neg_tdiv_pos {x k : Int} (hx : x < 0) (hk : 0 < k) : -(x.tdiv k) = -x / k := by
  rw [← Int.neg_tdiv, Int.tdiv_eq_ediv_of_nonneg (by omega)]
theorem neg_tmod_pos {x k : Int} (hx : x < 0) (hk : 0 < k) : -(x.tmod k) = -x % k := by
  rw [← Int.neg_tmod, Int.tmod_eq_emod_of_nonneg (by omega)]
theorem expN1 {x : Int} (h : x < 0) (h1 : -x < 10) : expText x = [45, 48, -x + 48] := by unfold expText; rw [if_pos h, if_pos h1]
theorem expN2 {x : Int} (h : x < 0) (h1 : 10 ≤ -x) (h2 : -x < 100) : expText x = [45, (wrap64 (-x.tdiv 10) + 48) % 256, (-x.tmod 10 + 48) % 256] := by
  unfold expText; rw [if_pos h, if_neg (by omega), if_pos h2, neg_tdiv_pos h (by omega), neg_tmod_pos h (by omega)]
  unfold wrap64
  generalize -x = y at *
  have e1 : y / 10 + 48 = ((y / 10 + 9223372036854775808) % 18446744073709551616 - 9223372036854775808 + 48) % 256 := by omega
  have e2 : y % 10 + 48 = (y % 10 + 48) % 256 := by omega
  rw [← e1, ← e2]
theorem expN3 {x : Int} (h : x < 0) (h1 : 10 ≤ -x) (h2 : 100 ≤ -x) (h3 : -x < 1000) : expText x = [45, (wrap64 (-x.tdiv 100) + 48) % 256, wrap64 (-x.tdiv 10) % 256 % 10 + 48, (-x.tmod 10 + 48) % 256] := by
  unfold expText; rw [if_pos h, if_neg (by omega), if_neg (by omega), neg_tdiv_pos h (by omega), neg_tdiv_pos h (by omega), neg_tmod_pos h (by omega)]
  unfold wrap64
  generalize -x = y at *
  have e1 : y / 100 + 48 = ((y / 100 + 9223372036854775808) % 18446744073709551616 - 9223372036854775808 + 48) % 256 := by omega
  have e2 : y % 10 + 48 = (y % 10 + 48) % 256 := by omega
  have e3 : y / 10 % 10 = ((y / 10 + 9223372036854775808) % 18446744073709551616 - 9223372036854775808) % 256 % 10 := by omega
  rw [← e1, ← e2, ← e3]
theorem expP1 {x : Int} (h : 0 ≤ x) (h1 : x < 10) : expText x = [43, 48, x + 48] := by unfold expText; rw [if_neg (by omega), if_pos h1]
theorem expP2 {x : Int} (h : 0 ≤ x) (h1 : 10 ≤ x) (h2 : x < 100) : expText x = [43, x / 10 + 48, x % 10 + 48] := by unfold expText; rw [if_neg (by omega), if_neg (by omega), if_pos h2]
theorem expP3 {x : Int} (h : 0 ≤ x) (h1 : 10 ≤ x) (h2 : 100 ≤ x) (h3 : x < 1000) : expText x = [43, x / 100 + 48, x / 10 % 10 + 48, x % 10 + 48] := by unfold expText; rw [if_neg (by omega), if_neg (by omega), if_neg (by omega)]

set_option maxRecDepth 100000 in
set_option maxHeartbeats 800000 in
theorem efg_one {B : Nat} (neg : Bool) (w0 : World) (v : Value) (n : Nat) (xs : List Value) (g : Nat) (cs : Array Value) (dp : Int) (hO : Out B w0 w0 v n xs) (hn : n ≤ 1000) (hbuf : w0.heap[g]? = some (.cells cs 178 (0, 0))) (h0 : -400 ≤ dp) (h1 : dp ≤ 400) (b0 : Int) (hb0 : cs[0]? = some (.int .u8 b0)) :
    Calls Tryz.prog 172 #[v, .bool neg, .slice (some ⟨g, 0, none⟩) 32 32, .int .i64 dp, .int .i64 1, .int .i64 0, .int .u8 101, .bool true] w0 (Appended B w0 n xs (signOf neg ++ [b0, 101] ++ expText (dp - 1))) := by
  have hc := buf_cell (Keep.refl w0) hbuf (by decide) 0 _ hb0
  have hx0 : -(dp - 1) < 1000 := by omega
  have hx1 : dp - 1 < 1000 := by omega
  cases neg
  all_goals
    go_enter Tryz.func172, Tryz.ntmps172
    go_wp2_with (at_builtin; refine app_lit rfl _ _ rfl rfl (by assumption) rfl (by simp [Value.oneCell']) (by simp; omega) ?_; intro v1 w1 hO1; have hc := buf_cell hO1.keep hbuf (by decide) 0 _ hb0)
    all_goals
      go_ret
      have hE : ∃ l, expText (dp - 1) = l := ⟨_, rfl⟩
      first
        | rw [expN1 (x := dp - 1) (by assumption) (by assumption)]
        | rw [expN2 (x := dp - 1) (by assumption) (by assumption) (by assumption)]
        | rw [expN3 (x := dp - 1) (by assumption) (by assumption) (by assumption) (by assumption)]
        | rw [expP1 (x := dp - 1) (by assumption) (by assumption)]
        | rw [expP2 (x := dp - 1) (by assumption) (by assumption) (by assumption)]
        | rw [expP3 (x := dp - 1) (by assumption) (by assumption) (by assumption) (by assumption)]
      exact ⟨_, rfl, Out.to (by assumption) (by simp [signOf]) (by simp [signOf])⟩
end Go.Proofs.YtdfodfflkmcgpaaGreatDoor
/- The exponent form of a floating number of more digits than one, and of zero. -/
namespace Go.Proofs.YtdfodfflkmcgpaaGreatDoor
open Go.RowKit
set_option linter.unusedVariables false
set_option linter.unusedSimpArgs false
set_option maxRecDepth 100000 in
set_option maxHeartbeats 800000 in
theorem efg_more {B : Nat} (neg : Bool) (w0 : World) (v : Value) (n : Nat) (xs : List Value) (g : Nat) (cs : Array Value) (dp nd : Int) (hO : Out B w0 w0 v n xs) (hn : n ≤ 1000) (hbuf : w0.heap[g]? = some (.cells cs 178 (0, 0))) (h0 : -400 ≤ dp) (h1 : dp ≤ 400) (b0 : Int) (hb0 : cs[0]? = some (.int .u8 b0))
    (hnd : 2 ≤ nd) (hnd2 : nd ≤ 20) (hnd0 : (nd != 0) = true) (ds : List Int) (hds : ds.length = nd.toNat - 1) (hdc : ∀ j u, (ds.map (Value.int .u8))[j]? = some u → cs[1 + j]? = some u) :
    Calls Tryz.prog 172 #[v, .bool neg, .slice (some ⟨g, 0, none⟩) 32 32, .int .i64 dp, .int .i64 nd, .int .i64 (nd - 1), .int .u8 101, .bool true] w0 (Appended B w0 n xs (signOf neg ++ [b0, 46] ++ ds ++ [101] ++ expText (dp - 1))) := by
  have hc := buf_cell (Keep.refl w0) hbuf (by decide) 0 _ hb0
  have hx0 : -(dp - 1) < 1000 := by omega
  have hx1 : dp - 1 < 1000 := by omega
  cases neg
  all_goals
    go_enter Tryz.func172, Tryz.ntmps172
    go_wp2_with (at_builtin; first | (refine app_lit rfl _ _ rfl rfl (by assumption) rfl (by simp [Value.oneCell']) (by simp; omega) ?_; intro v1 w1 hO1; have hc := buf_cell hO1.keep hbuf (by decide) 0 _ hb0) | (refine app_own rfl _ _ rfl rfl (by assumption) _ _ _ (ds.map (Value.int .u8)) rfl ?hl ?hnews ?h1 ?hn ?h; (case hl => (rw [List.length_map]; omega)); (case hnews => (intro j u hj; rw [Lib.add_plain]; refine buf_cell (Out.keep (by assumption)) hbuf (by decide) _ _ (hdc j u hj))); (case h1 => (intro u hu; obtain ⟨z, _, rfl⟩ := List.mem_map.1 hu; rfl)); (case hn => (simp; omega)); (intro v1 w1 hO1)))
    refine wp_loop_rounds 1 ?_
    rw [rounds_succ]
    go_wp2_with (at_builtin; refine app_lit rfl _ _ rfl rfl (by assumption) rfl (by simp [Value.oneCell']) (by simp; omega) ?_; intro v1 w1 hO1)
    all_goals
      go_ret
      first
        | rw [expN1 (x := dp - 1) (by assumption) (by assumption)]
        | rw [expN2 (x := dp - 1) (by assumption) (by assumption) (by assumption)]
        | rw [expN3 (x := dp - 1) (by assumption) (by assumption) (by assumption) (by assumption)]
        | rw [expP1 (x := dp - 1) (by assumption) (by assumption)]
        | rw [expP2 (x := dp - 1) (by assumption) (by assumption) (by assumption)]
        | rw [expP3 (x := dp - 1) (by assumption) (by assumption) (by assumption) (by assumption)]
      exact ⟨_, rfl, Out.to (by assumption) (by simp [signOf]; omega) (by simp [signOf])⟩

set_option maxRecDepth 100000 in
set_option maxHeartbeats 800000 in
theorem efg_zero {B : Nat} (neg : Bool) (w0 : World) (v : Value) (n : Nat) (xs : List Value) (hO : Out B w0 w0 v n xs) (hn : n ≤ 1000) :
    Calls Tryz.prog 172 #[v, .bool neg, .slice none 0 0, .int .i64 0, .int .i64 0, .int .i64 (-1), .int .u8 101, .bool true] w0 (Appended B w0 n xs (signOf neg ++ [48, 101, 43, 48, 48])) := by
  cases neg
  all_goals
    go_enter Tryz.func172, Tryz.ntmps172
    go_wp2_with (at_builtin; refine app_lit rfl _ _ rfl rfl (by assumption) rfl (by simp [Value.oneCell']) (by simp; omega) ?_; intro v1 w1 hO1)
    all_goals
      go_ret
      exact ⟨_, rfl, Out.to (by assumption) (by simp [signOf]) (by simp [signOf])⟩
end Go.Proofs.YtdfodfflkmcgpaaGreatDoor
/- The digits of a number laid into a buffer, noughts at the end told apart. -/
namespace Go.Proofs.YtdfodfflkmcgpaaGreatDoor
open Go.RowKit Go.Sort
set_option linter.unusedVariables false

/-- a new world by a row of bytes at the head of a block. -/
theorem heap_putRow {w : World} {g : Nat} {cs : Array Value} {t : TypeId} (hb : w.heap[g]? = some (.cells cs t (0, 0))) (dk : Array UInt8) :
    (putRow (fun (b : UInt8) => Value.int .u8 (b.toNat : Int)) w g 0 dk).heap[g]? = some (.cells (putCells (fun (b : UInt8) => Value.int .u8 (b.toNat : Int)) 0 dk cs) t (0, 0)) := by
  unfold putRow mapBlock
  simp [Array.getElem?_modify, hb, onCells]
theorem grown_putRow (w : World) (g : Nat) (dk : Array UInt8) : w.grownBy (putRow (fun (b : UInt8) => Value.int .u8 (b.toNat : Int)) w g 0 dk) (some g) where
  os := rfl
  tape := rfl
  output := rfl
  size := by simp
  block := fun k _ hne => by
    unfold putRow mapBlock
    have : k ≠ g := fun h => hne (by rw [h])
    rw [Array.getElem?_modify]
    rw [if_neg (fun h => this h.symm)]
theorem zeros_holds {w : World} {g nd : Nat} (hb : w.heap[g]? = some (.cells (Array.replicate 32 (.int .u8 0)) 178 (0, 0))) (hnd : nd ≤ 32) :
    Holds (fun (b : UInt8) => Value.int .u8 (b.toNat : Int)) w g 0 (Array.replicate nd (0 : UInt8)) := fun j hj => by
  have hj' : j < nd := by simpa using hj
  refine ⟨?_, by simp [World.frozen?, hb]⟩
  rw [cell_of_row w g (0 + j) _ _ _ hb, Array.getElem?_replicate, if_pos (by omega), getElem!_pos _ j hj]
  simp
/-- how many digits are left where noughts at the end fall away. -/
def nzAt (D : List Int) : Nat → Nat
  | 0 => 0
  | k + 1 => if D.getD k 0 = 48 then nzAt D k else k + 1
/-- the digits of a number, as bytes. -/
def digs (d : Nat) : List Int := (Lib.decDigits d).map fun b => (b.toNat : Int)
theorem digs_length (d : Nat) : (digs d).length = Lib.nDigits d := by unfold digs; rw [List.length_map, Lib.decDigits_length]
theorem digs_cell {d v' nd : Nat} {dk : Array UInt8} (hn : Lib.nDigits d = nd) (h : Lib.FmtInv nd d 0 v' dk) (cs : Array Value) (hcs : cs.size = 32) (hnd : nd ≤ 20) (j : Nat) (hj : j < nd) :
    (putCells (fun (b : UInt8) => Value.int .u8 (b.toNat : Int)) 0 dk cs)[j]? = some (.int .u8 ((digs d).getD j 0)) := by
  subst hn
  have h1 := Lib.row_is_numeral h j (by rw [Lib.decDigits_length]; exact hj)
  have hsz := h.size
  have hl : j < (digs d).length := by rw [digs_length]; exact hj
  unfold putCells
  rw [Array.getElem?_mapIdx, Array.getElem?_eq_getElem (by omega)]
  simp only [Option.map_some, Nat.zero_le, true_and, Nat.zero_add, Nat.sub_zero]
  rw [if_pos (by omega), ← h1, List.getD_eq_getElem?_getD, List.getElem?_eq_getElem hl]
  simp [digs]
theorem nzAt_same (D : List Int) (k : Nat) (h : D.getD k 0 = 48) : nzAt D (k + 1) = nzAt D k := by rw [nzAt, if_pos h]
theorem nzAt_end (D : List Int) (k : Nat) (h : ¬ D.getD k 0 = 48) : nzAt D (k + 1) = k + 1 := by rw [nzAt, if_neg h]
theorem nDigits_pow (d : Nat) (hd : 1 ≤ d) (hd2 : d < 18446744073709551616) : d < 10 ^ Lib.nDigits d := by
  exact Lib.lt_pow_nDigits d
/-- what setDigits leaves: the digits in block g, none else turned. -/
def Digits (g : Nat) (d nd : Nat) (w w' : World) : Prop :=
  w.grownBy w' (some g) ∧ ∃ cs : Array Value, w'.heap[g]? = some (.cells cs 178 (0, 0)) ∧ ∀ j, j < nd → cs[j]? = some (.int .u8 ((digs d).getD j 0))
set_option maxRecDepth 100000 in
set_option maxHeartbeats 400000 in
theorem setDigits_any (g : Nat) (d nd : Nat) (p : Int) (w : World) (hb : w.heap[g]? = some (.cells (Array.replicate 32 (.int .u8 0)) 178 (0, 0))) (hd : 1 ≤ d) (hd2 : d < 18446744073709551616) (hnd : Lib.nDigits d = nd) (hnd2 : nd ≤ 20) (hnd0 : 1 ≤ nd) (hp0 : -400 ≤ p) (hp1 : p ≤ 400) :
    Calls Tryz.prog 174 #[.slice (some ⟨g, 0, none⟩) 32 32, .int .u64 d, .int .i64 p, .int .i64 nd] w fun e w' => e = .returned (.tuple #[.int .i64 (nd + p), .int .i64 (nzAt (digs d) nd)]) ∧ Digits g d nd w w' := by
  have hz := zeros_holds (nd := nd) hb (by omega)
  have hu : d < 10 ^ (Array.replicate nd (0 : UInt8)).size := by rw [Array.size_replicate, ← hnd]; exact nDigits_pow d hd hd2
  have hH := Tryz.internal_strconv_formatBase10 g 0 32 d (Array.replicate nd (0 : UInt8)) w hz hu hd2 (by simp; omega)
  rw [Array.size_replicate] at hH
  have HH := Lib.hid hH
  clear hH hu hz
  have Hn := Lib.hid hnd
  have Hb := Lib.hid hb
  clear hnd hb
  go_enter Tryz.func174, Tryz.ntmps174
  go_wp2_with fail
  refine HH.out.mono ?_
  rintro e' w1 ⟨rfl, n, v', dk, hw1, hF⟩
  have hcs : ∀ j, j < nd → (putCells (fun (b : UInt8) => Value.int .u8 (b.toNat : Int)) 0 dk (Array.replicate 32 (.int .u8 0)))[j]? = some (.int .u8 ((digs d).getD j 0)) := fun j hj => digs_cell Hn.out hF _ (by simp) hnd2 j hj
  have hheap : w1.heap[g]? = some (.cells (putCells (fun (b : UInt8) => Value.int .u8 (b.toNat : Int)) 0 dk (Array.replicate 32 (.int .u8 0))) 178 (0, 0)) := by rw [hw1]; exact heap_putRow Hb.out dk
  have hDig : Digits g d nd w w1 := ⟨by rw [hw1]; exact ⟨rfl, rfl, rfl, (grown_putRow w g dk).size, (grown_putRow w g dk).block⟩, _, hheap, hcs⟩
  have HD := Lib.hid hDig
  have hcell : ∀ j, j < nd → w1.cell? ⟨g, j, none⟩ = some (.int .u8 ((digs d).getD j 0)) := fun j hj => (cell_of_row w1 g j _ _ _ hheap).trans (hcs j hj)
  have HC := Lib.hid hcell
  clear hcell hDig hheap hcs hw1 hF dk v' n
  go_wp2_with fail
  go_loop [3] (fun s3 => ∃ k : Nat, k ≤ nd ∧ s3 = .int .i64 k ∧ nzAt (digs d) k = nzAt (digs d) nd) (fun s3 => (intOf s3).toNat)
  case atStart => exact ⟨nd, Nat.le_refl _, rfl, rfl⟩
  case round =>
    obtain ⟨k, hk, rfl, hnz⟩ := hrel
    have Hz := Lib.hid hnz
    clear hnz
    rcases Nat.eq_zero_or_pos k with rfl | hpos
    · go_wp2
      go_ret2
      have hr : ((nzAt (digs d) nd : Nat) : Int) = 0 := by rw [← Hz.out]; rfl
      exact ⟨by rw [hr]; rfl, HD.out⟩
    · obtain ⟨j, rfl⟩ : ∃ j, k = j + 1 := ⟨k - 1, by omega⟩
      have hc := HC.out j (by omega)
      have hj1 : ((j + 1 : Nat) : Int) - 1 = (j : Int) := by omega
      by_cases h48 : (digs d).getD j 0 = 48
      · rw [h48] at hc
        go_wp2
        go_round
        case rel => exact ⟨j, by omega, rfl, by rw [← Hz.out, nzAt_same _ _ h48]⟩
        case measure => simp [intOf]
      · have h49 := Lib.hid h48
        clear h48
        obtain ⟨z, hz⟩ : ∃ z, (digs d).getD j 0 = z := ⟨_, rfl⟩
        rw [hz] at hc
        have Hzz := Lib.hid hz
        have hne : (z == 48) = false := by rw [beq_eq_false_iff_ne, ← Hzz.out]; exact h49.out
        clear hz
        go_wp2
        go_ret2
        exact ⟨by rw [← Hz.out, nzAt_end _ _ h49.out]; rfl, HD.out⟩
end Go.Proofs.YtdfodfflkmcgpaaGreatDoor
