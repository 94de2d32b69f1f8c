/- A finite floating number in the exponent form, both widths: the shortest digits, laid out. -/
import Derived.Test.YtdfodfflkmcgpaaGreatDoorA8
import Derived.Test.YtdfodfflkmcgpaaGreatDoorA9
namespace Go.Proofs.YtdfodfflkmcgpaaGreatDoor
open Go.RowKit Go.Sort
set_option linter.unusedVariables false
theorem run_f64bits (b : Nat) (w : World) : (callFunc 169 #[.float .f64 b]).run Tryz.prog w = .ok (.value (.int .u64 b)) w := by kernel_rfl
theorem run_f32bits (b : Nat) (w : World) : (callFunc 168 #[.float .f32 b]).run Tryz.prog w = .ok (.value (.int .u32 b)) w := by kernel_rfl
theorem len64_sh (mant : Nat) (w : World) (h0 : mant ≠ 0) (h1 : mant < 18446744073709551616) :
    Calls Tryz.prog 140 #[.int .u64 mant] w fun e w' => e = .returned (.int .i64 (64 - (sh mant : Int))) ∧ w' = w := by
  have hb := bitLen_bounds h0 h1
  have : (64 - (sh mant : Int)) = (Lib.bitLen mant : Int) := by unfold sh; omega
  rw [this]
  exact Tryz.bits_Len64 mant w (by omega) (by omega)

/-- digits in the exponent form: the first, a point and the others if there are any, the exponent. -/
def textE (d : Nat) (p : Int) : List Int :=
  (digs d).take 1 ++ (if nzAt (digs d) (Lib.nDigits d) ≤ 1 then [] else 46 :: ((digs d).take (nzAt (digs d) (Lib.nDigits d))).drop 1) ++ [101] ++ expText ((Lib.nDigits d : Int) + p - 1)

theorem nzAt_le (D : List Int) (k : Nat) : nzAt D k ≤ k := by
  induction k with
  | zero => exact Nat.le_refl _
  | succ k ih => rw [nzAt]; split <;> omega
theorem nzAt_pos (D : List Int) (h : D.getD 0 0 ≠ 48) (k : Nat) (hk : 1 ≤ k) : 1 ≤ nzAt D k := by
  induction k with
  | zero => omega
  | succ k ih =>
    rw [nzAt]; split
    · rename_i h48
      rcases Nat.eq_zero_or_pos k with rfl | hp
      · exact absurd h48 h
      · exact ih hp
    · omega
theorem digs_first (d : Nat) (hd : 1 ≤ d) : (digs d).getD 0 0 ≠ 48 := by
  induction d using Nat.strongRecOn with
  | ind d ih =>
    by_cases h10 : d < 10
    · have e : digs d = [((UInt8.ofNat (48 + d)).toNat : Int)] := by unfold digs; rw [Lib.decDigits_one h10]; rfl
      rw [e]
      simp only [List.getD_cons_zero]
      rw [UInt8.toNat_ofNat']; omega
    · have e : digs d = digs (d / 10) ++ [((UInt8.ofNat (48 + d % 10)).toNat : Int)] := by
        unfold digs; rw [Lib.decDigits, dif_neg h10]; simp
      have hl : 0 < (digs (d / 10)).length := by rw [digs_length]; exact Lib.nDigits_pos _
      rw [e, List.getD_eq_getElem?_getD, List.getElem?_append_left hl, ← List.getD_eq_getElem?_getD]
      exact ih (d / 10) (by omega) (by omega)

theorem Out.rebase {B : Nat} {w w2 w' : World} {v : Value} {n : Nat} {xs : List Value} (hb : Below w.heap.size w w2) (hB : B ≤ w.heap.size) (h : Out B w2 w' v n xs) : Out B w w' v n xs :=
  ⟨h.own, (hb.mono hB).trans h.below, fun g cs t fz ht hg => h.keep g cs t fz ht ((hb.block g (heap_lt hg)).trans hg), hB⟩
theorem Out.later {B : Nat} {w w2 : World} {v : Value} {n : Nat} {xs : List Value} (h : Out B w w v n xs) (hb : Below w.heap.size w w2) : Out B w2 w2 v n xs :=
  ⟨h.own.kept (row := none) ⟨hb.os, hb.tape, hb.output, hb.size, fun k hk _ => hb.block k hk⟩ (by
      rcases hv : v.ownBlock with _ | k
      · exact .inl rfl
      · exact .inr (by simp)), Below.refl _ _, Keep.refl _, Nat.le_trans h.base hb.size⟩
theorem zeros32 : (#[Value.int .u8 0, Value.int .u8 0, Value.int .u8 0, Value.int .u8 0, Value.int .u8 0, Value.int .u8 0, Value.int .u8 0, Value.int .u8 0, Value.int .u8 0, Value.int .u8 0, Value.int .u8 0, Value.int .u8 0, Value.int .u8 0, Value.int .u8 0, Value.int .u8 0, Value.int .u8 0, Value.int .u8 0, Value.int .u8 0, Value.int .u8 0, Value.int .u8 0, Value.int .u8 0, Value.int .u8 0, Value.int .u8 0, Value.int .u8 0, Value.int .u8 0, Value.int .u8 0, Value.int .u8 0, Value.int .u8 0, Value.int .u8 0, Value.int .u8 0, Value.int .u8 0, Value.int .u8 0] : Array Value) = Array.replicate 32 (Value.int .u8 0) := rfl

/-- the exponent form of digits that stand in a buffer. -/
theorem efg_any {B : Nat} (neg : Bool) (w0 w2 : World) (v : Value) (n : Nat) (xs : List Value) (g d nd : Nat) (p : Int) (hO : Out B w2 w2 v n xs) (hn : n ≤ 1000) (hD : Digits g d nd w0 w2) (hnd : Lib.nDigits d = nd) (hnd2 : nd ≤ 20) (hd : 1 ≤ d) (h0 : -350 ≤ p) (h1 : p ≤ 350) (prec : Int) (hprec : prec = (nzAt (digs d) nd : Int) - 1) :
    Calls Tryz.prog 172 #[v, .bool neg, .slice (some ⟨g, 0, none⟩) 32 32, .int .i64 (nd + p), .int .i64 (nzAt (digs d) nd), .int .i64 prec, .int .u8 101, .bool true] w2 (Appended B w2 n xs (signOf neg ++ textE d p)) := by
  obtain ⟨_, cs, hbuf, hcs⟩ := hD
  have hpos : 1 ≤ nd := by rw [← hnd]; exact Lib.nDigits_pos _
  have hz1 := nzAt_pos (digs d) (digs_first d hd) nd hpos
  have hz2 := nzAt_le (digs d) nd
  have hl : (digs d).length = nd := by rw [digs_length, hnd]
  unfold textE
  rw [hnd]
  have ht1 : (digs d).take 1 = [(digs d).getD 0 0] := by
    cases hdd : digs d with
    | nil => rw [hdd] at hl; simp at hl; omega
    | cons a l => simp
  rw [ht1]
  have hb0 := hcs 0 (by omega)
  subst hprec
  by_cases h1z : nzAt (digs d) nd ≤ 1
  · have e1 : nzAt (digs d) nd = 1 := by omega
    rw [if_pos h1z, e1]
    have := efg_one neg w2 v n xs g cs (nd + p) hO hn hbuf (by omega) (by omega) _ hb0
    simpa using this
  · rw [if_neg h1z]
    have hlen : (((digs d).take (nzAt (digs d) nd)).drop 1).length = ((nzAt (digs d) nd : Nat) : Int).toNat - 1 := by simp; omega
    have := efg_more neg w2 v n xs g cs (nd + p) ((nzAt (digs d) nd : Nat) : Int) hO hn hbuf (by omega) (by omega) _ hb0 (by omega) (by omega) (by rw [bne_iff_ne]; omega) (((digs d).take (nzAt (digs d) nd)).drop 1) hlen ?_
    · simpa using this
    · intro j u hj
      rw [List.getElem?_map] at hj
      obtain ⟨z, hz, rfl⟩ := Option.map_eq_some_iff.1 hj
      rw [List.getElem?_drop, List.getElem?_take] at hz
      split at hz
      · rw [hcs (1 + j) (by omega), List.getD_eq_getElem?_getD, hz]; rfl
      · cases hz
end Go.Proofs.YtdfodfflkmcgpaaGreatDoor
