/- Bytes that a call appends to a slice of its own: what is kept beside it, and the law of one append. -/
import Derived.Test.YtdfodfflkmcgpaaGreatDoorA5
import Derived.Laws.AppendOwn
import Derived.Laws.OwnMore
import Derived.RowKit3
namespace Go.Proofs.YtdfodfflkmcgpaaGreatDoor
open Go.RowKit
set_option linter.unusedVariables false

theorem info5 : (Tryz.prog.info? 5).map (fun i => (i.zero, i.size, i.bytes)) = some (some (.int .u8 0), 1, 1) := by kernel_rfl

/-- every block of another element type stays as it is. -/
def Keep (w w' : World) : Prop := ∀ (g : Nat) (cs : Array Value) (t : TypeId) (fz : Nat × Nat), t ≠ 5 → w.heap[g]? = some (Obj.cells cs t fz) → w'.heap[g]? = some (Obj.cells cs t fz)
theorem Keep.refl (w : World) : Keep w w := fun _ _ _ _ _ h => h
theorem Keep.trans {a b c : World} (h : Keep a b) (k : Keep b c) : Keep a c := fun g cs t fz ht hg => k g cs t fz ht (h g cs t fz ht hg)
theorem heap_lt {w : World} {g : Nat} {o : Obj} (h : w.heap[g]? = some o) : g < w.heap.size := by
  rcases Nat.lt_or_ge g w.heap.size with hlt | hge
  · exact hlt
  · rw [Array.getElem?_eq_none hge] at h; cases h
theorem Keep.alloc {a w : World} (h : Keep a w) (o : Obj) : Keep a (w.alloc o) := fun g cs t fz ht hg => by
  have h1 := h g cs t fz ht hg
  exact (Below.heap_alloc w o g (heap_lt h1)).trans h1
theorem Keep.drewN {a w : World} (h : Keep a w) (n : Nat) : Keep a (w.drewN n) := fun g cs t fz ht hg => h g cs t fz ht hg

/-- the slice value v is the call's own, holds xs; below B, and in blocks of other types, all is as in w0. -/
structure Out (B : Nat) (w0 w : World) (v : Value) (n : Nat) (xs : List Value) : Prop where
  own : w.ownsRow B 5 1 v n xs
  below : Below B w0 w
  keep : Keep w0 w
  base : B ≤ w0.heap.size
theorem Out.size {B : Nat} {w0 w : World} {v : Value} {n : Nat} {xs : List Value} (h : Out B w0 w v n xs) : B ≤ w.heap.size := Nat.le_trans h.base h.below.size
theorem Out.alloc {B : Nat} {w0 w : World} {v : Value} {n : Nat} {xs : List Value} (h : Out B w0 w v n xs) (o : Obj) : Out B w0 (w.alloc o) v n xs :=
  ⟨h.own.alloc o, h.below.alloc h.size o, h.keep.alloc o, h.base⟩
theorem Out.drewN {B : Nat} {w0 w : World} {v : Value} {n : Nat} {xs : List Value} (h : Out B w0 w v n xs) (k : Nat) : Out B w0 (w.drewN k) v n xs :=
  ⟨h.own, below_drewN h.below k, h.keep.drewN k, h.base⟩

theorem own_type {w : World} {B : Nat} {v : Value} {n g : Nat} {xs : List Value} (h : w.ownsRow B 5 1 v n xs) (hg : v.ownBlock = some g) : ∃ cur, w.heap[g]? = some (.cells cur 5 (0, 0)) := by
  rcases h.2 with ⟨rfl, _⟩ | ⟨g', cap, cur, rfl, _, hh, _⟩
  · simp [Value.ownBlock] at hg
  · have : g' = g := by simpa [Value.ownBlock] using hg
    subst this
    exact ⟨cur, hh⟩

theorem app_own {ops : Array Oper} {rest : List Oper} {o : Oper} {a : Act} {Q : Exit → Act → World → Prop} {B : Nat} {w0 w : World} {v : Value} {n : Nat} {xs : List Value}
    (hgd : o.guard = none) (s x : Operand) (ho : o.op = .call { callee := .builtin .append, args := #[s, x], argTypes := #[43, 43] })
    (hs : a.eval s = v) (hO : Out B w0 w v n xs)
    (ad : Addr) (m c : Nat) (news : List Value) (hx : a.eval x = .slice (some ad) m c) (hl : news.length = m) (hnews : ∀ j u, news[j]? = some u → w.cell? (ad.add j) = some u) (h1 : ∀ u ∈ news, u.oneCell' = true)
    (hn : n + m ≤ 140737488355328)
    (h : ∀ v' w', Out B w0 w' v' (n + m) (xs ++ news) → wpList Tryz.prog ops Q rest (a.put o.dst v') w') : wpList Tryz.prog ops Q (o :: rest) a w := by
  obtain ⟨i0, hi, hz0, hz1, hz2⟩ := info_parts info5
  refine wpList_append_own w hgd s x 43 ho B 5 i0 (.int .u8 0) 1 1 Tryz.underlying43 hi hz0 hz1 hz2 rfl (by decide) v n xs hs hO.own ad m c news hx (by omega) hnews h1 (by unfold maxLen; omega) (by omega) hO.size ?_
  intro v' w' hown hg _
  refine h v' w' ⟨hown, hO.below.grown hg hO.size (fun k hk => (hO.own.lt k hk).1), ?_, hO.base⟩
  intro g cs t fz ht hgg
  have h1 := hO.keep g cs t fz ht hgg
  refine (hg.block g (heap_lt h1) ?_).trans h1
  intro he
  obtain ⟨cur, hc⟩ := own_type hO.own he.symm
  rw [h1] at hc
  injection hc with hc
  injection hc with _ hc2
  exact ht hc2

/-- append(dst, c0, c1, ..): the bytes stand in a block that is just made. -/
theorem app_lit {ops : Array Oper} {rest : List Oper} {o : Oper} {a : Act} {Q : Exit → Act → World → Prop} {B : Nat} {w0 w : World} {v : Value} {n : Nat} {xs : List Value} {cs : Array Value}
    (hgd : o.guard = none) (s x : Operand) (ho : o.op = .call { callee := .builtin .append, args := #[s, x], argTypes := #[43, 43] })
    (hs : a.eval s = v) (hO : Out B w0 w v n xs) (hx : a.eval x = .slice (some ⟨w.heap.size, 0, none⟩) cs.size cs.size) (h1 : ∀ u ∈ cs.toList, u.oneCell' = true) (hn : n + cs.size ≤ 140737488355328)
    (h : ∀ v' w', Out B w0 w' v' (n + cs.size) (xs ++ cs.toList) → wpList Tryz.prog ops Q rest (a.put o.dst v') w') : wpList Tryz.prog ops Q (o :: rest) a (w.alloc (.cells cs 5)) := by
  refine app_own hgd s x ho hs (hO.alloc _) ⟨w.heap.size, 0, none⟩ cs.size cs.size cs.toList hx (by simp) ?_ h1 hn h
  intro j u hj
  have e : (⟨w.heap.size, 0, none⟩ : Addr).add j = ⟨w.heap.size, j, none⟩ := by rw [Lib.add_plain]; simp
  rw [e, World.cell?_alloc_new]
  simpa using hj
end Go.Proofs.YtdfodfflkmcgpaaGreatDoor
