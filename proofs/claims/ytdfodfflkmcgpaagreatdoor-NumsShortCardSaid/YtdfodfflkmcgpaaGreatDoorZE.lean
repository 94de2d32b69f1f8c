/- What the row's laid variables give the walk. -/
import Derived.Test.YtdfodfflkmcgpaaGreatDoorZC4
import Derived.Test.YtdfodfflkmcgpaaGreatDoorCards
import Derived.LaidSub
import Derived.MakeChecks
import Derived.OpenShut
import Derived.ChangeSame
import Derived.Lib.LaidTab
import Derived.Test.YtdfodfflkmcgpaaGreatDoorTie
import Derived.WalkKit
import Derived.ProofKit
import Derived.LaidMore
import Derived.Lay
import Derived.SevenTiedAt
import Derived.Deep.DeepHandedRow
import Derived.Stop.Joined
import Derived.Test.YtdfodfflkmcgpaaGreatDoorZQc
import Derived.Deep.Slices
import Derived.Deep.Strs
namespace Go.Proofs.YtdfodfflkmcgpaaGreatDoor
open Go.RowKit Go.WideShapes Go.ChangeShapes Uscale Pow10
set_option linter.unusedVariables false
set_option maxRecDepth 100000
noncomputable def LAID : List (String × DataW Unit) := Rows.numsNumbersRow.laid
theorem laid_one {W : World} {l : List (String × DataW Unit)} {n : String} {d : DataW Unit} (h : laidMet Tryz.prog l W) (hf : l.filter (fun x => x.1 == n) = [(n, d)]) :
    laidMet Tryz.prog [(n, d)] W := hf ▸ h.filter (fun x => x.1 == n)
theorem laid_read {W : World} {n : String} {d : DataW Unit} (h : laidMet Tryz.prog [(n, d)] W) :
    ∃ g t cs fuel p, Tryz.prog.globalNamed n = some g ∧ (Tryz.prog.globals[g]?).map (·.type) = some t ∧ W.var? Tryz.prog n = some cs ∧ DataW.trod (fun _ => ()) Tryz.prog W 0 (fun _ => true) false fuel t cs.toList = some (d, p) := by
  obtain ⟨ps, ⟨g, t, cs, fuel, p, q, hg, ht, hv, hd, _, _⟩, _⟩ := h
  exact ⟨g, t, cs, fuel, p, hg, ht, hv, hd⟩
theorem fopt : LAID.filter (fun x => x.1 == "internal/strconv.optimize") = [("internal/strconv.optimize", .lit (.bool true))] := by kernel_rfl
theorem fpow : LAID.filter (fun x => x.1 == "internal/strconv.pow10Tab") = [("internal/strconv.pow10Tab", Go.Pinned.pow10Tab)] := by kernel_rfl
theorem fu64 : LAID.filter (fun x => x.1 == "internal/strconv.uint64pow10") = [("internal/strconv.uint64pow10", Lib.tabData .u64 Lib.pow10Tab)] := by kernel_rfl
theorem n12 : Tryz.prog.globalNamed "internal/strconv.pow10Tab" = some 12 := by kernel_rfl
theorem n3 : Tryz.prog.globalNamed "internal/strconv.optimize" = some 3 := by kernel_rfl
theorem t12 : (Tryz.prog.globals[12]?).map (·.type) = some 239 := by kernel_rfl
theorem t3 : (Tryz.prog.globals[3]?).map (·.type) = some 4 := by kernel_rfl
theorem c238 : Tryz.prog.cellsOf 238 = 2 := by kernel_rfl
theorem c25 : Tryz.prog.cellsOf 25 = 1 := by kernel_rfl
theorem c239 : Tryz.prog.cellsOf 239 = 1392 := by kernel_rfl
theorem good_pow {W : World} (h : laidMet Tryz.prog LAID W) (i : Nat) (hi : i < 696) :
    W.cell? ⟨12, i * 2, none⟩ = some (.int .u64 (hiOf i)) ∧ W.cell? ⟨12, i * 2 + 1, none⟩ = some (.int .u64 (loOf i)) := by
  obtain ⟨g, t, cs, fuel, p, hg, ht, hv, hd⟩ := laid_read (laid_one h fpow)
  obtain rfl := Option.some.inj (n12.symm.trans hg)
  obtain rfl := Option.some.inj (t12.symm.trans ht)
  obtain ⟨xs, m, _, hx, hl, hlen, hat⟩ := DataW.trod_array Tryz.underlying239 hd
  rw [c239] at hl
  rw [c238] at hat
  have hxs : xs.map (·.1) = Go.Pinned.pow10Rows.map fun x => (.agg [.lit (.int .u64 x.1), .lit (.int .u64 x.2)] : DataW Unit) := by
    have := congrArg Prod.fst hx
    simpa [Go.Pinned.pow10Tab] using this.symm
  have hi' : i < xs.length := by omega
  have hai := hat i hi
  rw [List.getElem?_eq_getElem hi'] at hai
  obtain ⟨y0, y1, n, hy, hl2, h0, h1⟩ := trod_struct2 Tryz.underlying238 hai
  have hrow : i < Go.Pinned.pow10Rows.length := by have := congrArg List.length hxs; simp at this; omega
  have hfst : xs[i].1 = .agg [.lit (.int .u64 (hiOf i)), .lit (.int .u64 (loOf i))] := by
    have := congrArg (·[i]?) hxs
    simp [hi', hrow] at this
    rw [this]
    simp [hiOf, loOf, hrow]
  rw [hy] at hfst
  simp only [DataW.agg.injEq, List.cons.injEq, and_true] at hfst
  simp only [c25] at h0 h1
  obtain ⟨z0, e0, rfl, _⟩ := DataW.trod_int Tryz.underlying25 h0
  obtain ⟨z1, e1, rfl, _⟩ := DataW.trod_int Tryz.underlying25 h1
  simp only [DataW.lit.injEq, Lit.int.injEq, true_and] at hfst
  have hcell := World.var?_cell n12 hv
  rw [hcell, hcell]
  have E0 := congrArg (·[0]?) e0
  have E1 := congrArg (·[0]?) e1
  simp [List.getElem?_drop] at E0 E1
  exact ⟨by rw [E0, hfst.1], by rw [E1, hfst.2]⟩
theorem good_opt {W : World} (h : laidMet Tryz.prog LAID W) : W.cell? ⟨3, 0, none⟩ = some (.bool true) := by
  obtain ⟨g, t, cs, fuel, p, hg, ht, hv, hd⟩ := laid_read (laid_one h fopt)
  obtain rfl := Option.some.inj (n3.symm.trans hg)
  obtain rfl := Option.some.inj (t3.symm.trans ht)
  obtain ⟨b, hb, hx⟩ := DataW.trod_bool Tryz.underlying4 hd
  have hb' : b = true := by
    have := congrArg Prod.fst hx
    simpa using this.symm
  have hc := World.var?_cell n3 hv 0
  rw [hc]
  have E := congrArg (·[0]?) hb
  simp at E
  rw [E, hb']
theorem good_u64 {W : World} (h : laidMet Tryz.prog LAID W) : Lib.TabIs Tryz.prog W "internal/strconv.uint64pow10" .u64 Lib.pow10Tab := by
  have hl := laid_one h fu64
  obtain ⟨g, t, cs, fuel, p, hg, ht, hv, hd⟩ := laid_read hl
  refine Lib.tabIs_of_head (g := 1) (t := 155) (e := 25) (n := 20) (by kernel_rfl) (by kernel_rfl) (by kernel_rfl) Tryz.underlying25 (by kernel_rfl) (by kernel_rfl) hl
theorem good_of {W : World} (h : laidMet Tryz.prog LAID W) (hs : W.ShapedOpen Tryz.prog) (h17 : 17 ≤ W.heap.size) : Good W.heap.size W where
  base := h17
  pow := fun i hi => good_pow h i hi
  u64p := good_u64 h
  opt := good_opt h
  maxLen := Tryz.laysM145.s1_3 W hs
theorem n16 : Tryz.prog.globalNamed "internal/strconv.float64pow10" = some 16 := by kernel_rfl
theorem ff64 : LAID.filter (fun x => x.1 == "internal/strconv.float64pow10") = [("internal/strconv.float64pow10", Rows.laid_internal_strconv_float64pow10)] := by kernel_rfl
theorem heap17 {W : World} (h : laidMet Tryz.prog LAID W) : 17 ≤ W.heap.size := by
  obtain ⟨g, t, cs, fuel, p, hg, ht, hv, hd⟩ := laid_read (laid_one h ff64)
  unfold World.var? at hv
  rw [n16] at hv
  simp only [Option.bind_some] at hv
  rcases Nat.lt_or_ge 16 W.heap.size with hlt | hge
  · exact hlt
  · rw [Array.getElem?_eq_none hge] at hv
    cases hv
end Go.Proofs.YtdfodfflkmcgpaaGreatDoor
/- A row without places: what it leaves behind; and the row's frame in general. -/
namespace Go.Proofs.YtdfodfflkmcgpaaGreatDoor
open Go.ChangeShapes Go.WideShapes Go.ChangeAt Go.RowKit
set_option linter.unusedVariables false
set_option maxRecDepth 100000
/-- a call that holds no place of memory may grow the memory. -/
theorem post_plain {H : Type} {enc : TypeId × Value → H} {P : Program} {f : Func} {s : ChangeSpec} {apart fresh handsOn again : Bool} {W W' : World} {args : Array Value} {v : Value} {ds gs : List (DataW H)}
    (hW : DataW.Whole enc P f.params.toList s.vars apart W args.toList ds gs [])
    (hres : ∀ (b : Nat) (sp : Nat → Bool) (hd : Bool), DataW.TrodAll enc P W' b sp hd f.resultTypes.toList (v.resultList f.resultTypes.size) (s.fn H (ds ++ gs)).results [])
    (hargs : ∀ sp : Nat → Bool, DataW.TrodAll enc P W' 0 sp true f.params.toList args.toList (s.fn H (ds ++ gs)).args [])
    (hvars : ∀ sp : Nat → Bool, DataW.TrodVars enc P W' sp s.vars (s.fn H (ds ++ gs)).vars [])
    (hk : W.keptBut W' (· ∈ ([] : List MemPlace)))
    (hok : ∀ (j : Nat) (t : TypeId) (r : Value), f.resultTypes[j]? = some t → (v.resultList f.resultTypes.size)[j]? = some r → Value.okWide P W' .any 0 t r) :
    s.post enc P f apart fresh handsOn again W args v W' := by
  refine ⟨ds, gs, [], [], [], [], hW, hres _ _ _, hargs _, hvars _, World.keptBut_mono (fun p hp => ⟨hp, by cases hp⟩) hk, fun _ => ?_⟩
  obtain ⟨_, _, _, _, _, hz, hn⟩ := hW
  refine ⟨hok, _, _, ([] ++ []) ++ [], ⟨[] ++ [], [], trodAll_append (hargs _) (hres _ _ _), hvars _, rfl, ?_, ?_⟩, ?_⟩
  · intro b off hp
    cases hp
  · intro ha
    exact List.nodup_nil
  · intro p hp _
    cases hp
theorem own : ownKnob Tryz.prog.godebug = none := by kernel_rfl
theorem laidH_plain (W : World) (h : laidMetH Tryz.prog LAID W) : laidMet Tryz.prog LAID W := by
  rw [MakeChecks.laidMetH_plain _ _ _ (by kernel_rfl)] at h
  exact h
theorem flooks : true = Tryz.prog.looks [] := by kernel_rfl
theorem fmain : Tryz.prog.mainIs = some (true, "bfedfc95734c8291edfc8b4fbd2e83eac56cf3e67b9421195415f0031cce7b93".toList) := by kernel_rfl
end Go.Proofs.YtdfodfflkmcgpaaGreatDoor
/- What the row's laid variables give the reading of numbers. -/
namespace Go.Proofs.YtdfodfflkmcgpaaGreatDoor
open Go.RowKit Go.WideShapes Go.ChangeShapes Uscale Pow10 Parse
set_option linter.unusedVariables false
set_option maxRecDepth 100000
theorem trod_float {H : Type} {enc : TypeId × Value → H} {P : Program} {w : World} {base : Nat} {spare : Nat → Bool} {held : Bool} {fuel : Nat} {t : TypeId} {cs : List Value} {x : DataW H × List MemPlace} {k : FloatKind}
   (ht : P.underlying t = some (.float k)) (h : DataW.trod enc P w base spare held fuel t cs = some x) : ∃ n, cs = [.float k n] ∧ x = (.lit (.float k n), []) ∧ (Lit.float k n).wf = true := by
  cases fuel with
  | zero => simp [DataW.trod] at h
  | succ n =>
    unfold DataW.trod at h
    rw [ht] at h
    split at h <;> simp_all
theorem float_tab {W : World} {name : String} {g : Nat} {t e : TypeId} {k : FloatKind} {words : List Nat}
   (h : laidMet Tryz.prog [(name, .slice (words.map fun x => .lit (.float k x)) [])] W) (hg : Tryz.prog.globalNamed name = some g) (ht : (Tryz.prog.globals[g]?).map (·.type) = some t)
   (hu : Tryz.prog.underlying t = some (.slice e)) (he : Tryz.prog.underlying e = some (.float k)) (hc : Tryz.prog.cellsOf e = 1) (hw0 : 0 < words.length) (hw1 : words.length ≤ 1000) (f : Nat → Nat) (hf : ∀ i, i < words.length → words[i]? = some (f i)) :
    FloatTab k W W.heap.size g words.length f := by
  obtain ⟨g', t', cs, fuel, p, hg', ht', hv, hd⟩ := laid_read h
  obtain rfl := Option.some.inj (hg.symm.trans hg')
  obtain rfl := Option.some.inj (ht.symm.trans ht')
  rcases Go.Deep.open_slice1 hu hc hd with ⟨_, hx⟩ | ⟨a, len, cap, m, n, V, D, Pl, hcs, hb, hl, hm, hmm, hx, hall⟩
  · simp at hx
  · simp only [if_true] at hmm
    simp only [Prod.mk.injEq, DataW.slice.injEq] at hx
    obtain ⟨⟨hx1, hx2⟩, -⟩ := hx
    have hlen : len = words.length := by
      have := congrArg List.length hx1
      simpa using this.symm
    have hcap : cap = len := by
      have := congrArg List.length hx2
      simp at this
      omega
    have hcell : ∀ i, i < words.length → W.cell? (a.add i) = some (.float k (f i)) := by
      intro i hi
      obtain ⟨h1, h2⟩ := hall i (by omega)
      obtain ⟨z, hz1, hz2, -⟩ := trod_float he h2
      have h3 := congrArg (·[i]?) hx1
      simp only [List.getElem?_map, hf i hi, Option.map_some, List.getElem?_range (show i < len by omega)] at h3
      have h4 : D i = .lit (.float k z) := (Prod.mk.inj hz2).1
      rw [h4] at h3
      have h5 : f i = z := by simpa using h3
      rw [h1, h5]
      have : V i = .float k z := by simpa using hz1
      rw [this]
    have h0 := hcell 0 hw0
    have ha0 : a.add 0 = a := by simp [Addr.add]
    rw [ha0] at h0
    have hspot : a.spot = none := by
      unfold World.cell? at h0
      split at h0
      · split at h0
        · cases h0
        · rename_i h; simpa using h
      · cases h0
    have hblk : a.block < W.heap.size := by
      unfold World.cell? at h0
      rcases Nat.lt_or_ge a.block W.heap.size with h | h
      · exact h
      · rw [Array.getElem?_eq_none h] at h0; cases h0
    have haeq : a = ⟨a.block, a.off, none⟩ := by
      have h9 : a = ⟨a.block, a.off, a.spot⟩ := rfl
      rw [hspot] at h9
      exact h9
    refine ⟨a.block, a.off, cap, hblk, by omega, by omega, ?_, fun i hi => ?_⟩
    · have hcl := World.var?_cell hg hv 0
      rw [hcl]
      have := congrArg (·[0]?) hcs
      simp at this
      rw [this, hlen, ← haeq]
    · have := hcell i hi
      have hadd : a.add i = ⟨a.block, a.off + i, none⟩ := by
        unfold Addr.add
        split
        · rename_i h; subst h; rw [Nat.add_zero]; exact haeq
        · rfl
      rw [← hadd]; exact this
theorem n14 : Tryz.prog.globalNamed "internal/strconv.float32pow10" = some 14 := by kernel_rfl
theorem n11 : Tryz.prog.globalNamed "internal/strconv.float64info" = some 11 := by kernel_rfl
theorem t16 : (Tryz.prog.globals[16]?).map (·.type) = some 249 := by kernel_rfl
theorem t14 : (Tryz.prog.globals[14]?).map (·.type) = some 246 := by kernel_rfl
theorem t11 : (Tryz.prog.globals[11]?).map (·.type) = some 226 := by kernel_rfl
theorem ff32 : LAID.filter (fun x => x.1 == "internal/strconv.float32pow10") = [("internal/strconv.float32pow10", Rows.laid_internal_strconv_float32pow10)] := by kernel_rfl
theorem fi64 : LAID.filter (fun x => x.1 == "internal/strconv.float64info") = [("internal/strconv.float64info", Rows.laid_internal_strconv_float64info)] := by kernel_rfl
def words64 : List Nat := (List.range 23).map fun i => natR Ieee.double (10 ^ i)
def words32 : List Nat := (List.range 11).map fun i => natR Ieee.single (10 ^ i)
theorem lw64 : (Rows.laid_internal_strconv_float64pow10 : DataW Unit) = .slice (words64.map fun x => .lit (.float .f64 x)) [] := by kernel_rfl
theorem lw32 : (Rows.laid_internal_strconv_float32pow10 : DataW Unit) = .slice (words32.map fun x => .lit (.float .f32 x)) [] := by kernel_rfl
theorem rich_p64 {W : World} (h : laidMet Tryz.prog LAID W) : FloatTab .f64 W W.heap.size 16 23 (fun i => natR Ieee.double (10 ^ i)) := by
  have hl := laid_one h ff64
  rw [lw64] at hl
  have := float_tab (words := words64) hl n16 t16 (by kernel_rfl : Tryz.prog.underlying 249 = some (.slice 59)) (by kernel_rfl) (by kernel_rfl) (by decide) (by decide) (fun i => natR Ieee.double (10 ^ i)) (fun i hi => by
    unfold words64 at hi ⊢
    rw [List.length_map, List.length_range] at hi
    rw [List.getElem?_map, List.getElem?_range hi]; rfl)
  exact this
theorem rich_p32 {W : World} (h : laidMet Tryz.prog LAID W) : FloatTab .f32 W W.heap.size 14 11 (fun i => natR Ieee.single (10 ^ i)) := by
  have hl := laid_one h ff32
  rw [lw32] at hl
  have := float_tab (words := words32) hl n14 t14 (by kernel_rfl : Tryz.prog.underlying 246 = some (.slice 60)) (by kernel_rfl) (by kernel_rfl) (by decide) (by decide) (fun i => natR Ieee.single (10 ^ i)) (fun i hi => by
    unfold words32 at hi ⊢
    rw [List.length_map, List.length_range] at hi
    rw [List.getElem?_map, List.getElem?_range hi]; rfl)
  exact this
theorem rich_info {W : World} (h : laidMet Tryz.prog LAID W) : W.cell? ⟨11, 0, none⟩ = some (.int .u64 52) := by
  obtain ⟨g, t, cs, fuel, p, hg, ht, hv, hd⟩ := laid_read (laid_one h fi64)
  obtain rfl := Option.some.inj (n11.symm.trans hg)
  obtain rfl := Option.some.inj (t11.symm.trans ht)
  obtain ⟨y0, y1, y2, n, hy, hl2, h0, h1, h2⟩ := Go.Deep.trod_struct3 Tryz.underlying226 hd
  have e8 : (Tryz.prog.cellsOf 50) = 1 := by kernel_rfl
  simp only [e8] at h0
  obtain ⟨z0, e0, rfl, -⟩ := DataW.trod_int Tryz.underlying50 h0
  have hfst : z0 = 52 := by
    have := congrArg Prod.fst hy
    simp [Rows.laid_internal_strconv_float64info] at this
    omega
  have hcell := World.var?_cell n11 hv 0
  rw [hcell]
  have E0 := congrArg (·[0]?) e0
  simp at E0
  rw [E0, hfst]
theorem n5 : Tryz.prog.globalNamed "strconv.ErrRange" = some 5 := by kernel_rfl
theorem t5 : (Tryz.prog.globals[5]?).map (·.type) = some 91 := by kernel_rfl
theorem fer : LAID.filter (fun x => x.1 == "strconv.ErrRange") = [("strconv.ErrRange", Rows.laid_strconv_ErrRange)] := by kernel_rfl
theorem rich_er {W : World} (h : laidMet Tryz.prog LAID W) : ∃ v, W.cell? ⟨5, 0, none⟩ = some v ∧ (v = .nilIface ∨ ∃ te pe, v = .iface te pe) := by
  obtain ⟨g, t, cs, fuel, p, hg, ht, hv, hd⟩ := laid_read (laid_one h fer)
  obtain rfl := Option.some.inj (n5.symm.trans hg)
  obtain rfl := Option.some.inj (t5.symm.trans ht)
  obtain ⟨_, u, v, hc, -, -⟩ := iface_of_trod Tryz.underlying91 hd
  have hcell := World.var?_cell n5 hv 0
  have E0 := congrArg (·[0]?) hc
  simp at E0
  exact ⟨.iface u v, by rw [hcell, E0], .inr ⟨u, v, rfl⟩⟩
theorem rich_of {W : World} (h : laidMet Tryz.prog LAID W) (hs : W.ShapedOpen Tryz.prog) : Rich W.heap.size W where
  toGood := good_of h hs (heap17 h)
  info := rich_info h
  p64 := rich_p64 h
  p32 := rich_p32 h
  er := rich_er h
end Go.Proofs.YtdfodfflkmcgpaaGreatDoor
