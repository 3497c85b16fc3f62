/-
  What Justify leaves of a state, as JustOrders asks: plain Lean.
-/
import Derived.Test.YtikbkcidalippaaJustifyLaw
import Derived.Test.YtikbkcidalippaaChkEq
namespace Go.Proofs.Ytikbkcidalippaa
open Go.RowKit
set_option maxRecDepth 100000

theorem patch_ext {c v : Array Value} {o : Nat} (h : o + v.size ≤ c.size) : (patch c o v).extract o (o + v.size) = v := by
  apply Array.ext_getElem?
  intro i
  rw [Array.getElem?_extract, size_patch h]
  by_cases hi : i < v.size
  · rw [if_pos (by omega), get_patch_in h (by omega) (by omega)]
    exact congrArg (fun k => v[k]?) (by omega)
  · rw [if_neg (by omega), Array.getElem?_eq_none (by omega)]
theorem fin_chk {cs c : Array Value} (h : WfC cs) (hc : WfC c) (ep : Int) : ∀ k, (finN cs c ep k).extract 1059 (1059 + 33) = c.extract 1059 (1059 + 33) ∨ (finN cs c ep k).extract 1059 (1059 + 33) = cs.extract 993 (993 + 33) ∨ (finN cs c ep k).extract 1059 (1059 + 33) = cs.extract 1026 (1026 + 33)
  | 0 => .inl rfl
  | k + 1 => by
    have hs := h.size
    have hs2 := (h.fin hc ep k).size
    unfold finN
    split
    · right
      have e1 : (oldK cs (wayK k)).size = 33 := by have := wayK_lt k; unfold oldK; simp; omega
      have e2 := patch_ext (c := finN cs c ep k) (v := oldK cs (wayK k)) (o := 1059) (by omega)
      rw [e1] at e2
      rw [e2]
      unfold wayK
      split
      · left; rfl
      · right; rfl
    · exact fin_chk h hc ep k
theorem weigh_chk {cs : Array Value} (h : WfC cs) (all prev cur : Int) : (weighC cs all prev cur).extract 1059 (1059 + 33) = cs.extract 1059 (1059 + 33) ∨ (weighC cs all prev cur).extract 1059 (1059 + 33) = cs.extract 993 (993 + 33) ∨ (weighC cs all prev cur).extract 1059 (1059 + 33) = cs.extract 1026 (1026 + 33) := by
  rw [weigh_mid]
  rcases fin_chk h (h.mid all prev cur) (cN cs 33 / 4) 4 with e | e | e
  · left
    rw [e]
    exact ext_congr_ (by rw [(h.mid all prev cur).size, h.size]) _ _ fun i h1 h2 => mid_fin h all prev cur h1
  · exact .inr (.inl e)
  · exact .inr (.inr e)
theorem weigh_less {cs : Array Value} (h : WfC cs) {all prev cur : Int} (h1 : 3 * prev < 2 * all) (h2 : 3 * cur < 2 * all) :
    (weighC cs all prev cur).extract 1026 (1026 + 33) = cs.extract 1026 (1026 + 33) ∧ cB (weighC cs all prev cur) 989 = false := by
  constructor
  · refine ext_congr_ (by rw [(h.weigh all prev cur).size, h.size]) _ _ fun i i1 i2 => ?_
    rw [weigh_low h all prev cur (by omega)]
    unfold midC curC prevC
    rw [if_neg (by omega), if_neg (by omega), shift_out h.size (by omega)]
  · refine cB_of ((weigh_low h all prev cur (by omega)).trans ((mid_b0 h all prev cur).trans ?_))
    rw [decide_eq_false (by omega)]

/-- What JustOrders asks of the state p that Justify has made of cs. -/
structure OrdP (cs p : Array Value) (L : Nat → List Value) : Prop where
  fin : p.extract 1059 (1059 + 33) = cs.extract 1059 (1059 + 33) ∨ p.extract 1059 (1059 + 33) = cs.extract 993 (993 + 33) ∨ p.extract 1059 (1059 + 33) = cs.extract 1026 (1026 + 33)
  num : cN cs 1059 ≤ cN cs 1026 → cN cs 993 ≤ cN cs 1026 → cN cs 1026 ≤ subz (cN cs 33 / 4) 1 → cN p 1059 ≤ cN p 1026
  less : 1 < cN cs 33 / 4 → 3 * prevOf cs L < 2 * allOf cs L → 3 * curOf cs L < 2 * allOf cs L → p.extract 1026 (1026 + 33) = cs.extract 1026 (1026 + 33) ∧ cB p 989 = false
  out : ∀ i, ¬ isSO i → i < 989 ∨ 1092 ≤ i → p[i]? = cs[i]?
theorem ord_of {cs p : Array Value} {L : Nat → List Value} (h : WfC cs) (hp : WfC p) (ha : Alike p (jusC cs L)) : OrdP cs p L := by
  have hj : WfC (jusC cs L) := by
    unfold jusC
    split
    · exact h
    · exact h.weigh _ _ _
  have e1 := ha.ext hp.size hj.size 1059 (1059 + 33) (fun i i1 i2 => by unfold isSO; omega)
  have e2 := ha.ext hp.size hj.size 1026 (1026 + 33) (fun i i1 i2 => by unfold isSO; omega)
  have n1 := ha.num 1059 (by decide)
  have n2 := ha.num 1026 (by decide)
  have b1 : cB p 989 = cB (jusC cs L) 989 := cB_eq (ha 989 (by decide))
  have hse : subz (cN cs 33 / 4) 1 ≤ cN cs 33 / 4 := by
    have := (weigh_epoch h).1
    unfold subz; split <;> omega
  by_cases he : cN cs 33 / 4 ≤ 1
  · have ej : jusC cs L = cs := if_pos he
    rw [ej] at e1 e2 n1 n2 b1
    refine ⟨.inl e1, fun h1 _ _ => by rw [n1, n2]; exact h1, fun h1 => absurd h1 (by omega), fun i hi _ => by rw [ha i hi, ej]⟩
  · have ej : jusC cs L = weighC cs (allOf cs L) (prevOf cs L) (curOf cs L) := if_neg he
    rw [ej] at e1 e2 n1 n2 b1
    refine ⟨by rw [e1]; exact weigh_chk h _ _ _, fun h1 h2 h3 => ?_, fun _ h2 h3 => ?_, fun i hi hr => by rw [ha i hi, ej]; exact weigh_out h hr⟩
    · rw [n1, n2, weigh_just h]
      rcases weigh_final h (allOf cs L) (prevOf cs L) (curOf cs L) with e | e | e <;> rw [e] <;> (split <;> (try split) <;> omega)
    · rw [e2, b1]
      exact weigh_less h h2 h3
/-- The state that is put back. -/
theorem ord_back {cs p : Array Value} {L : Nat → List Value} (h : WfC cs) (hp : WfC p) (ho : OrdP cs p L) :
    Alike (patch (patch (patch (patch p 993 (cs.extract 993 (993 + 33))) 1026 (cs.extract 1026 (1026 + 33))) 1059 (cs.extract 1059 (1059 + 33))) 989 (cs.extract 989 (989 + 4))) cs := by
  have s1 := h.size
  have s2 := hp.size
  have z1 : (cs.extract 993 (993 + 33)).size = 33 := by simp; omega
  have z2 : (cs.extract 1026 (1026 + 33)).size = 33 := by simp; omega
  have z3 : (cs.extract 1059 (1059 + 33)).size = 33 := by simp; omega
  have z4 : (cs.extract 989 (989 + 4)).size = 4 := by simp; omega
  have p1 : (patch p 993 (cs.extract 993 (993 + 33))).size = 1957 := by rw [size_patch (by omega)]; exact s2
  have p2 : (patch (patch p 993 (cs.extract 993 (993 + 33))) 1026 (cs.extract 1026 (1026 + 33))).size = 1957 := by rw [size_patch (by omega)]; exact p1
  have p3 : (patch (patch (patch p 993 (cs.extract 993 (993 + 33))) 1026 (cs.extract 1026 (1026 + 33))) 1059 (cs.extract 1059 (1059 + 33))).size = 1957 := by rw [size_patch (by omega)]; exact p2
  intro i hi
  by_cases a1 : 989 ≤ i ∧ i < 993
  · rw [get_patch_in (by omega) (by omega) (by omega), Array.getElem?_extract, if_pos (by omega)]
    exact congrArg (fun k => cs[k]?) (by omega)
  · rw [get_patch_out (by omega) (by omega)]
    by_cases a2 : 1059 ≤ i ∧ i < 1092
    · rw [get_patch_in (by omega) (by omega) (by omega), Array.getElem?_extract, if_pos (by omega)]
      exact congrArg (fun k => cs[k]?) (by omega)
    · rw [get_patch_out (by omega) (by omega)]
      by_cases a3 : 1026 ≤ i ∧ i < 1059
      · rw [get_patch_in (by omega) (by omega) (by omega), Array.getElem?_extract, if_pos (by omega)]
        exact congrArg (fun k => cs[k]?) (by omega)
      · rw [get_patch_out (by omega) (by omega)]
        by_cases a4 : 993 ≤ i ∧ i < 1026
        · rw [get_patch_in (by omega) (by omega) (by omega), Array.getElem?_extract, if_pos (by omega)]
          exact congrArg (fun k => cs[k]?) (by omega)
        · rw [get_patch_out (by omega) (by omega)]
          exact ho.out i hi (by omega)
end Go.Proofs.Ytikbkcidalippaa
