/- What the row's laid variables give the walk. -/
import Derived.Test.YtdfodfflkmcgpaaGreatDoorC7
import Derived.Test.YtdfodfflkmcgpaaGreatDoorCards
import Derived.LaidSub
import Derived.MakeChecks
import Derived.OpenShut
import Derived.ChangeSame
import Derived.Lib.LaidTab
namespace Go.Proofs.YtdfodfflkmcgpaaGreatDoor
open Go.RowKit Go.WideShapes Go.ChangeShapes Uscale Pow10
set_option linter.unusedVariables false
set_option maxRecDepth 100000
noncomputable def LAID : List (String × DataW Unit) := Rows.numsNumbersRow.laid
theorem laid_one {W : World} {l : List (String × DataW Unit)} {n : String} {d : DataW Unit} (h : laidMet Tryz.prog l W) (hf : l.filter (fun x => x.1 == n) = [(n, d)]) :
    laidMet Tryz.prog [(n, d)] W := hf ▸ h.filter (fun x => x.1 == n)
theorem laid_read {W : World} {n : String} {d : DataW Unit} (h : laidMet Tryz.prog [(n, d)] W) :
    ∃ g t cs fuel p, Tryz.prog.globalNamed n = some g ∧ (Tryz.prog.globals[g]?).map (·.type) = some t ∧ W.var? Tryz.prog n = some cs ∧ DataW.trod (fun _ => ()) Tryz.prog W 0 (fun _ => true) false fuel t cs.toList = some (d, p) := by
  obtain ⟨ps, ⟨g, t, cs, fuel, p, q, hg, ht, hv, hd, _, _⟩, _⟩ := h
  exact ⟨g, t, cs, fuel, p, hg, ht, hv, hd⟩
theorem fopt : LAID.filter (fun x => x.1 == "internal/strconv.optimize") = [("internal/strconv.optimize", .lit (.bool true))] := by kernel_rfl
theorem fpow : LAID.filter (fun x => x.1 == "internal/strconv.pow10Tab") = [("internal/strconv.pow10Tab", Go.Pinned.pow10Tab)] := by kernel_rfl
theorem fu64 : LAID.filter (fun x => x.1 == "internal/strconv.uint64pow10") = [("internal/strconv.uint64pow10", Lib.tabData .u64 Lib.pow10Tab)] := by kernel_rfl
theorem n12 : Tryz.prog.globalNamed "internal/strconv.pow10Tab" = some 12 := by kernel_rfl
theorem n3 : Tryz.prog.globalNamed "internal/strconv.optimize" = some 3 := by kernel_rfl
theorem t12 : (Tryz.prog.globals[12]?).map (·.type) = some 239 := by kernel_rfl
theorem t3 : (Tryz.prog.globals[3]?).map (·.type) = some 4 := by kernel_rfl
theorem c238 : Tryz.prog.cellsOf 238 = 2 := by kernel_rfl
theorem c25 : Tryz.prog.cellsOf 25 = 1 := by kernel_rfl
theorem c239 : Tryz.prog.cellsOf 239 = 1392 := by kernel_rfl
theorem good_pow {W : World} (h : laidMet Tryz.prog LAID W) (i : Nat) (hi : i < 696) :
    W.cell? ⟨12, i * 2, none⟩ = some (.int .u64 (hiOf i)) ∧ W.cell? ⟨12, i * 2 + 1, none⟩ = some (.int .u64 (loOf i)) := by
  obtain ⟨g, t, cs, fuel, p, hg, ht, hv, hd⟩ := laid_read (laid_one h fpow)
  obtain rfl := Option.some.inj (n12.symm.trans hg)
  obtain rfl := Option.some.inj (t12.symm.trans ht)
  obtain ⟨xs, m, _, hx, hl, hlen, hat⟩ := DataW.trod_array Tryz.underlying239 hd
  rw [c239] at hl
  rw [c238] at hat
  have hxs : xs.map (·.1) = Go.Pinned.pow10Rows.map fun x => (.agg [.lit (.int .u64 x.1), .lit (.int .u64 x.2)] : DataW Unit) := by
    have := congrArg Prod.fst hx
    simpa [Go.Pinned.pow10Tab] using this.symm
  have hi' : i < xs.length := by omega
  have hai := hat i hi
  rw [List.getElem?_eq_getElem hi'] at hai
  obtain ⟨y0, y1, n, hy, hl2, h0, h1⟩ := trod_struct2 Tryz.underlying238 hai
  have hrow : i < Go.Pinned.pow10Rows.length := by have := congrArg List.length hxs; simp at this; omega
  have hfst : xs[i].1 = .agg [.lit (.int .u64 (hiOf i)), .lit (.int .u64 (loOf i))] := by
    have := congrArg (·[i]?) hxs
    simp [hi', hrow] at this
    rw [this]
    simp [hiOf, loOf, hrow]
  rw [hy] at hfst
  simp only [DataW.agg.injEq, List.cons.injEq, and_true] at hfst
  simp only [c25] at h0 h1
  obtain ⟨z0, e0, rfl, _⟩ := DataW.trod_int Tryz.underlying25 h0
  obtain ⟨z1, e1, rfl, _⟩ := DataW.trod_int Tryz.underlying25 h1
  simp only [DataW.lit.injEq, Lit.int.injEq, true_and] at hfst
  have hcell := World.var?_cell n12 hv
  rw [hcell, hcell]
  have E0 := congrArg (·[0]?) e0
  have E1 := congrArg (·[0]?) e1
  simp [List.getElem?_drop] at E0 E1
  exact ⟨by rw [E0, hfst.1], by rw [E1, hfst.2]⟩
theorem good_opt {W : World} (h : laidMet Tryz.prog LAID W) : W.cell? ⟨3, 0, none⟩ = some (.bool true) := by
  obtain ⟨g, t, cs, fuel, p, hg, ht, hv, hd⟩ := laid_read (laid_one h fopt)
  obtain rfl := Option.some.inj (n3.symm.trans hg)
  obtain rfl := Option.some.inj (t3.symm.trans ht)
  obtain ⟨b, hb, hx⟩ := DataW.trod_bool Tryz.underlying4 hd
  have hb' : b = true := by
    have := congrArg Prod.fst hx
    simpa using this.symm
  have hc := World.var?_cell n3 hv 0
  rw [hc]
  have E := congrArg (·[0]?) hb
  simp at E
  rw [E, hb']
theorem good_u64 {W : World} (h : laidMet Tryz.prog LAID W) : Lib.TabIs Tryz.prog W "internal/strconv.uint64pow10" .u64 Lib.pow10Tab := by
  have hl := laid_one h fu64
  obtain ⟨g, t, cs, fuel, p, hg, ht, hv, hd⟩ := laid_read hl
  refine Lib.tabIs_of_head (g := 1) (t := 155) (e := 25) (n := 20) (by kernel_rfl) (by kernel_rfl) (by kernel_rfl) Tryz.underlying25 (by kernel_rfl) (by kernel_rfl) hl
theorem good_of {W : World} (h : laidMet Tryz.prog LAID W) (hs : W.ShapedOpen Tryz.prog) (h17 : 17 ≤ W.heap.size) : Good W.heap.size W where
  base := h17
  pow := fun i hi => good_pow h i hi
  u64p := good_u64 h
  opt := good_opt h
  maxLen := Tryz.laysM145.s1_3 W hs
theorem n16 : Tryz.prog.globalNamed "internal/strconv.float64pow10" = some 16 := by kernel_rfl
theorem ff64 : LAID.filter (fun x => x.1 == "internal/strconv.float64pow10") = [("internal/strconv.float64pow10", Rows.laid_internal_strconv_float64pow10)] := by kernel_rfl
theorem heap17 {W : World} (h : laidMet Tryz.prog LAID W) : 17 ≤ W.heap.size := by
  obtain ⟨g, t, cs, fuel, p, hg, ht, hv, hd⟩ := laid_read (laid_one h ff64)
  unfold World.var? at hv
  rw [n16] at hv
  simp only [Option.bind_some] at hv
  rcases Nat.lt_or_ge 16 W.heap.size with hlt | hge
  · exact hlt
  · rw [Array.getElem?_eq_none hge] at hv
    cases hv
end Go.Proofs.YtdfodfflkmcgpaaGreatDoor
