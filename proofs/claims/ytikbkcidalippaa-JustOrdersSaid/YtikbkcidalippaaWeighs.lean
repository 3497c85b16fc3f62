/-
  What stands in the cells behind Weigh: the epochs, the bits. Plain Lean.
-/
import Derived.Test.YtikbkcidalippaaJust
namespace Go.Proofs.Ytikbkcidalippaa
open Go.RowKit
set_option maxRecDepth 100000

theorem mark_ep {cs : Array Value} (h : cs.size = 1957) (e : Int) {b : Nat} (hb : b ≠ 1026) : (markC cs e b)[1026]? = some (.int .u64 e) := by
  unfold markC
  have e1 : (chk e (rootOf cs (e * 4))).size = 33 := size_chk (size_rootOf h _)
  rw [get_set_ne' hb, get_patch_in (by omega) (by omega) (by omega)]
  show (chk e (rootOf cs (e * 4)))[0]? = _
  unfold chk
  rw [Array.getElem?_append, if_pos (by simp)]
  rfl
theorem mark_bit {cs : Array Value} (h : cs.size = 1957) (e : Int) {b : Nat} (hb : b < 1957) : (markC cs e b)[b]? = some (.bool true) := by
  unfold markC
  have e1 : (chk e (rootOf cs (e * 4))).size = 33 := size_chk (size_rootOf h _)
  rw [get_set_eq' (by rw [size_patch (by omega)]; omega)]
theorem shift_old {cs : Array Value} (h : cs.size = 1957) {i : Nat} (h1 : 993 ≤ i) (h2 : i < 1026) : (shiftC cs)[i]? = cs[i + 33]? := by
  unfold shiftC
  have e1 : (cs.extract 1026 (1026 + 33)).size = 33 := by simp; omega
  have s1 : (patch cs 993 (cs.extract 1026 (1026 + 33))).size = 1957 := by rw [size_patch (by omega)]; exact h
  have e2 : ((patch cs 993 (cs.extract 1026 (1026 + 33))).extract 989 (989 + 3)).size = 3 := by rw [Array.size_extract, s1]; rfl
  rw [get_set_ne' (by omega), get_patch_out (by omega) (by omega), get_patch_in (by omega) (by omega) (by omega), Array.getElem?_extract, if_pos (by omega)]
  exact congrArg (fun k => cs[k]?) (by omega)
theorem shift_bit {cs : Array Value} (h : cs.size = 1957) {i : Nat} (h1 : 990 ≤ i) (h2 : i < 993) : (shiftC cs)[i]? = cs[i - 1]? := by
  unfold shiftC
  have e1 : (cs.extract 1026 (1026 + 33)).size = 33 := by simp; omega
  have s1 : (patch cs 993 (cs.extract 1026 (1026 + 33))).size = 1957 := by rw [size_patch (by omega)]; exact h
  have e2 : ((patch cs 993 (cs.extract 1026 (1026 + 33))).extract 989 (989 + 3)).size = 3 := by rw [Array.size_extract, s1]; rfl
  rw [get_set_ne' (by omega), get_patch_in (by omega) (by omega) (by omega), Array.getElem?_extract, if_pos (by omega), get_patch_out (by omega) (by omega)]
  exact congrArg (fun k => cs[k]?) (by omega)
theorem shift_bit0 {cs : Array Value} (h : cs.size = 1957) : (shiftC cs)[989]? = some (.bool false) := by
  unfold shiftC
  have e1 : (cs.extract 1026 (1026 + 33)).size = 33 := by simp; omega
  have s1 : (patch cs 993 (cs.extract 1026 (1026 + 33))).size = 1957 := by rw [size_patch (by omega)]; exact h
  have e2 : ((patch cs 993 (cs.extract 1026 (1026 + 33))).extract 989 (989 + 3)).size = 3 := by rw [Array.size_extract, s1]; rfl
  rw [get_set_eq' (by rw [size_patch (by omega)]; omega)]

/-- The cells ahead of the four ways. -/
def midC (cs : Array Value) (all prev cur : Int) : Array Value := curC (prevC (shiftC cs) (cN cs 33 / 4) all prev) (cN cs 33 / 4) all cur
theorem weigh_mid {cs : Array Value} (all prev cur : Int) : weighC cs all prev cur = finN cs (midC cs all prev cur) (cN cs 33 / 4) 4 := rfl
section
variable {cs : Array Value} (h : WfC cs) (all prev cur : Int)
include h
theorem WfC.mid : WfC (midC cs all prev cur) := (h.shift.prev (weigh_epoch h)).cur (weigh_epoch h)
theorem weigh_low {i : Nat} (hi : i < 1059) : (weighC cs all prev cur)[i]? = (midC cs all prev cur)[i]? := by
  rw [weigh_mid]
  exact fin_out h (h.mid all prev cur) _ (by omega) 4
theorem mid_just : (midC cs all prev cur)[1026]? = some (.int .u64 (if 2 * all ≤ 3 * cur then cN cs 33 / 4 else if 2 * all ≤ 3 * prev then subz (cN cs 33 / 4) 1 else cN cs 1026)) := by
  have h1 := h.shift
  have h2 : WfC (prevC (shiftC cs) (cN cs 33 / 4) all prev) := h1.prev (weigh_epoch h)
  unfold midC curC
  split
  · exact mark_ep h2.size _ (by omega)
  · unfold prevC
    split
    · exact mark_ep h1.size _ (by omega)
    · rw [shift_out h.size (by omega)]
      exact (h.u64 1026 rfl).1
theorem mid_old {i : Nat} (h1 : 993 ≤ i) (h2 : i < 1026) : (midC cs all prev cur)[i]? = cs[i + 33]? := by
  have k1 := h.shift
  have k2 : WfC (prevC (shiftC cs) (cN cs 33 / 4) all prev) := k1.prev (weigh_epoch h)
  unfold midC
  rw [cur_out k2.size (by omega) (by omega), prev_out k1.size (by omega) (by omega), shift_old h.size h1 h2]
theorem mid_b0 : (midC cs all prev cur)[989]? = some (.bool (decide (2 * all ≤ 3 * cur))) := by
  have k1 := h.shift
  have k2 : WfC (prevC (shiftC cs) (cN cs 33 / 4) all prev) := k1.prev (weigh_epoch h)
  unfold midC curC
  split
  · rename_i hc
    rw [mark_bit k2.size _ (by omega), decide_eq_true hc]
  · rename_i hc
    rw [prev_out k1.size (by omega) (by omega), shift_bit0 h.size, decide_eq_false hc]
theorem mid_b1 : (midC cs all prev cur)[990]? = some (.bool (decide (2 * all ≤ 3 * prev) || cB cs 989)) := by
  have k1 := h.shift
  have k2 : WfC (prevC (shiftC cs) (cN cs 33 / 4) all prev) := k1.prev (weigh_epoch h)
  unfold midC
  rw [cur_out k2.size (by omega) (by omega)]
  unfold prevC
  split
  · rename_i hc
    rw [mark_bit k1.size _ (by omega), decide_eq_true hc]; rfl
  · rename_i hc
    rw [shift_bit h.size (by omega) (by omega), decide_eq_false hc]
    exact h.bool 989 rfl
theorem mid_b23 {i : Nat} (h1 : 991 ≤ i) (h2 : i < 993) : (midC cs all prev cur)[i]? = cs[i - 1]? := by
  have k1 := h.shift
  have k2 : WfC (prevC (shiftC cs) (cN cs 33 / 4) all prev) := k1.prev (weigh_epoch h)
  unfold midC
  rw [cur_out k2.size (by omega) (by omega), prev_out k1.size (by omega) (by omega), shift_bit h.size (by omega) h2]
theorem mid_fin {i : Nat} (h1 : 1059 ≤ i) : (midC cs all prev cur)[i]? = cs[i]? := by
  have k1 := h.shift
  have k2 : WfC (prevC (shiftC cs) (cN cs 33 / 4) all prev) := k1.prev (weigh_epoch h)
  unfold midC
  rw [cur_out k2.size (by omega) (by omega), prev_out k1.size (by omega) (by omega), shift_out h.size (by omega)]
end

/-- Its epoch is one of three. -/
theorem fin_epoch {cs c : Array Value} (h : WfC cs) (hc : WfC c) (ep : Int) : ∀ k, (finN cs c ep k)[1059]? = c[1059]? ∨ (finN cs c ep k)[1059]? = cs[993]? ∨ (finN cs c ep k)[1059]? = cs[1026]?
  | 0 => .inl rfl
  | k + 1 => by
    have hs := h.size
    have hs2 := (h.fin hc ep k).size
    have e1 : (oldK cs (wayK k)).size = 33 := by have := wayK_lt k; unfold oldK; simp; omega
    unfold finN
    split
    · rw [get_patch_in (by omega) (by omega) (by omega)]
      right
      unfold oldK
      rw [Array.getElem?_extract, if_pos (by have := wayK_lt k; omega)]
      unfold wayK
      split
      · left; rfl
      · right; rfl
    · exact fin_epoch h hc ep k
theorem cN_of {cs : Array Value} {i : Nat} {n : Int} {k : IntKind} (h : cs[i]? = some (.int k n)) : cN cs i = n := by unfold cN; rw [h]; rfl
theorem cB_of {cs : Array Value} {i : Nat} {n : Bool} (h : cs[i]? = some (.bool n)) : cB cs i = n := by unfold cB; rw [h]; rfl
theorem cN_eq {cs cs' : Array Value} {i j : Nat} (h : cs[i]? = cs'[j]?) : cN cs i = cN cs' j := by unfold cN; rw [h]
theorem cB_eq {cs cs' : Array Value} {i j : Nat} (h : cs[i]? = cs'[j]?) : cB cs i = cB cs' j := by unfold cB; rw [h]
section
variable {cs : Array Value} (h : WfC cs) (all prev cur : Int)
include h
theorem weigh_just : cN (weighC cs all prev cur) 1026 = if 2 * all ≤ 3 * cur then cN cs 33 / 4 else if 2 * all ≤ 3 * prev then subz (cN cs 33 / 4) 1 else cN cs 1026 :=
  cN_of ((weigh_low h all prev cur (by omega)).trans (mid_just h all prev cur))
theorem weigh_old : cN (weighC cs all prev cur) 993 = cN cs 1026 :=
  cN_eq ((weigh_low h all prev cur (by omega)).trans (mid_old h all prev cur (by omega) (by omega)))
theorem weigh_final : cN (weighC cs all prev cur) 1059 = cN cs 1059 ∨ cN (weighC cs all prev cur) 1059 = cN cs 993 ∨ cN (weighC cs all prev cur) 1059 = cN cs 1026 := by
  rcases fin_epoch h (h.mid all prev cur) (cN cs 33 / 4) 4 with e | e | e
  · exact .inl (cN_eq (e.trans (mid_fin h all prev cur (by omega))))
  · exact .inr (.inl (cN_eq e))
  · exact .inr (.inr (cN_eq e))
end

end Go.Proofs.Ytikbkcidalippaa
