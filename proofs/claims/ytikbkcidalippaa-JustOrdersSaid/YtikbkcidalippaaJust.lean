/-
  What Weigh does to a state's cells: plain Lean, no program in sight.
-/
import Derived.Test.YtikbkcidalippaaRightGo
namespace Go.Proofs.Ytikbkcidalippaa
open Go.RowKit

theorem get_set_ne' {cs : Array Value} {i k : Nat} {v : Value} (h : i ≠ k) : (cs.setIfInBounds i v)[k]? = cs[k]? := by rw [Array.getElem?_setIfInBounds, if_neg h]
theorem get_set_eq' {cs : Array Value} {i : Nat} {v : Value} (h : i < cs.size) : (cs.setIfInBounds i v)[i]? = some v := by rw [Array.getElem?_setIfInBounds, if_pos rfl, if_pos h]
theorem WfC.patch {cs vs : Array Value} {o : Nat} (h : WfC cs) (ho : o + vs.size ≤ 1957) (hv : ∀ j v, vs[j]? = some v → (ck (o + j)).ok v) : WfC (patch cs o vs) := by
  have hs := h.size
  refine ⟨by rw [size_patch (by omega)]; exact hs, fun i v hi => ?_⟩
  by_cases h1 : o ≤ i ∧ i < o + vs.size
  · rw [get_patch_in (by omega) h1.1 h1.2] at hi
    have := hv _ _ hi
    rwa [show o + (i - o) = i by omega] at this
  · rw [get_patch_out (by omega) (by omega)] at hi
    exact h.kind i v hi
theorem WfC.set {cs : Array Value} {i : Nat} {v : Value} (h : WfC cs) (hv : (ck i).ok v) : WfC (cs.setIfInBounds i v) := by
  refine ⟨by rw [Array.size_setIfInBounds]; exact h.size, fun k u hk => ?_⟩
  by_cases e : i = k
  · subst e
    rw [Array.getElem?_setIfInBounds, if_pos rfl] at hk
    split at hk
    · cases hk; exact hv
    · cases hk
  · rw [get_set_ne' e] at hk
    exact h.kind k u hk
theorem get_ext {cs : Array Value} {a b j : Nat} {v : Value} (h : (cs.extract a b)[j]? = some v) : cs[a + j]? = some v ∧ a + j < b := by
  rw [Array.getElem?_extract] at h
  split at h
  · exact ⟨h, by omega⟩
  · cases h
/-- The kind of a checkpoint's cell. -/
theorem ck_chk {o j : Nat} (ho : o = 993 ∨ o = 1026 ∨ o = 1059) (hj : j < 33) : ck (o + j) = if j = 0 then .u64 else .u8 := by
  unfold ck
  rcases ho with rfl | rfl | rfl
  all_goals
    rw [if_neg (by omega), if_neg (by omega)]
    by_cases h0 : j = 0
    · subst h0; rfl
    · rw [if_neg (by omega), if_neg h0]
theorem WfC.mvchk {cs c : Array Value} {o p : Nat} (h : WfC cs) (hc : WfC c) (ho : o = 993 ∨ o = 1026 ∨ o = 1059) (hp : p = 993 ∨ p = 1026 ∨ p = 1059) : WfC (Go.Proofs.Ytikbkcidalippaa.patch cs o (c.extract p (p + 33))) := by
  have hcs := hc.size
  refine h.patch (by simp; omega) fun j v hj => ?_
  obtain ⟨hj, hl⟩ := get_ext hj
  rw [ck_chk ho (by omega), ← ck_chk hp (by omega)]
  exact hc.kind _ _ hj
theorem ck_root {j : Nat} (h1 : 141 ≤ j) (h2 : j < 397) : ck j = .u8 := by
  unfold ck
  rw [if_neg (by omega), if_neg (by omega), if_neg (by omega)]
theorem WfC.putchk {cs c : Array Value} {o : Nat} {e sl : Int} (h : WfC cs) (hc : WfC c) (he : W64 e) (ho : o = 993 ∨ o = 1026 ∨ o = 1059) : WfC (Go.Proofs.Ytikbkcidalippaa.patch cs o (chk e (rootOf c sl))) := by
  have hcs := hc.size
  have hr := size_rootOf hcs sl
  refine h.patch (by rw [size_chk hr]; omega) fun j v hj => ?_
  have hj3 : j < 33 := by
    have := (Array.getElem?_eq_some_iff.1 hj).1
    rw [size_chk hr] at this; exact this
  rw [ck_chk ho hj3]
  unfold chk at hj
  by_cases h0 : j = 0
  · subst h0
    rw [Array.getElem?_append, if_pos (by simp)] at hj
    cases hj; exact he
  · rw [if_neg h0]
    rw [Array.getElem?_append, if_neg (by simpa using h0)] at hj
    obtain ⟨hj, hl⟩ := get_ext hj
    have hk := hc.kind _ _ hj
    have : (sl % 8).toNat < 8 := by omega
    rwa [ck_root (by omega) (by simp at hj3 ⊢; omega)] at hk

/-- OldJust becomes Just; the bits go one on. -/
def shiftC (cs : Array Value) : Array Value :=
  (patch (patch cs 993 (cs.extract 1026 (1026 + 33))) 990 ((patch cs 993 (cs.extract 1026 (1026 + 33))).extract 989 (989 + 3))).setIfInBounds 989 (.bool false)
/-- Just becomes the mark of the epoch e; the bit i is set. -/
def markC (cs : Array Value) (e : Int) (i : Nat) : Array Value := (patch cs 1026 (chk e (rootOf cs (e * 4)))).setIfInBounds i (.bool true)

theorem ck_bit {i : Nat} (h1 : 989 ≤ i) (h2 : i < 993) : ck i = .bool := by
  unfold ck
  rw [if_neg (by omega), if_pos (by omega)]
theorem WfC.shift {cs : Array Value} (h : WfC cs) : WfC (shiftC cs) := by
  have h1 := h.mvchk h (o := 993) (p := 1026) (.inl rfl) (.inr (.inl rfl))
  have hs := h1.size
  refine WfC.set (h1.patch (by simp; omega) fun j v hj => ?_) (by rw [ck_bit (by omega) (by omega)]; trivial)
  obtain ⟨hj, hl⟩ := get_ext hj
  have := h1.kind _ _ hj
  rw [ck_bit (by omega) (by omega)] at this ⊢
  exact this
theorem WfC.mark {cs : Array Value} (h : WfC cs) {e : Int} (he : W64 e) {i : Nat} (h1 : 989 ≤ i) (h2 : i < 993) : WfC (markC cs e i) :=
  WfC.set (h.putchk h he (.inr (.inl rfl))) (by rw [ck_bit h1 h2]; trivial)
/-- What they leave as it was. -/
theorem shift_out {cs : Array Value} (h : cs.size = 1957) {i : Nat} (hi : i < 989 ∨ 1026 ≤ i) : (shiftC cs)[i]? = cs[i]? := by
  unfold shiftC
  have e1 : (cs.extract 1026 (1026 + 33)).size = 33 := by simp; omega
  have s1 : (patch cs 993 (cs.extract 1026 (1026 + 33))).size = 1957 := by rw [size_patch (by omega)]; exact h
  have e2 : ((patch cs 993 (cs.extract 1026 (1026 + 33))).extract 989 (989 + 3)).size = 3 := by rw [Array.size_extract, s1]; rfl
  rw [get_set_ne' (by omega), get_patch_out (by omega) (by omega), get_patch_out (by omega) (by omega)]
theorem mark_out {cs : Array Value} (h : cs.size = 1957) {e : Int} {b i : Nat} (hb : b ≠ i) (hi : i < 1026 ∨ 1059 ≤ i) : (markC cs e b)[i]? = cs[i]? := by
  unfold markC
  have e1 : (chk e (rootOf cs (e * 4))).size = 33 := size_chk (size_rootOf h _)
  rw [get_set_ne' hb, get_patch_out (by omega) (by omega)]

/-- The two ways to be justified. -/
def prevC (cs : Array Value) (ep all prev : Int) : Array Value := if 2 * all ≤ 3 * prev then markC cs (subz ep 1) 990 else cs
def curC (cs : Array Value) (ep all cur : Int) : Array Value := if 2 * all ≤ 3 * cur then markC cs ep 989 else cs
/-- The four ways to finality: bits from, to; which checkpoint; how many epochs behind. -/
def wayB (k : Nat) : Nat := if k < 2 then 1 else 0
def wayE (k : Nat) : Nat := if k = 0 then 4 else if k < 3 then 3 else 2
def wayK (k : Nat) : Nat := if k < 2 then 0 else 1
def wayD (k : Nat) : Nat := if k = 0 then 3 else if k < 3 then 2 else 1
/-- The bits from b on, m of them, are set. -/
def runTo (cs : Array Value) (b : Nat) : Nat → Bool
  | 0 => true
  | m + 1 => runTo cs b m && cB cs (989 + b + m)
/-- The checkpoint k of the state that was. -/
def oldK (cs : Array Value) (k : Nat) : Array Value := cs.extract (993 + 33 * k) (993 + 33 * k + 33)
/-- After k ways: c the cells ahead of them, cs the state's that was. -/
def finN (cs c : Array Value) (ep : Int) : Nat → Array Value
  | 0 => c
  | k + 1 => if runTo c (wayB k) (wayE k - wayB k) = true ∧ cN cs (993 + 33 * wayK k) + wayD k = ep then patch (finN cs c ep k) 1059 (oldK cs (wayK k)) else finN cs c ep k
/-- The cells behind Weigh. -/
def weighC (cs : Array Value) (all prev cur : Int) : Array Value :=
  let ep := cN cs 33 / 4
  finN cs (curC (prevC (shiftC cs) ep all prev) ep all cur) ep 4

theorem wayK_lt (k : Nat) : wayK k < 2 := by unfold wayK; split <;> omega
theorem WfC.prev {cs : Array Value} (h : WfC cs) {ep all prev : Int} (he : W64 ep) : WfC (prevC cs ep all prev) := by
  unfold prevC; split
  · exact h.mark (subz_w he ⟨by omega, by omega⟩) (by omega) (by omega)
  · exact h
theorem WfC.cur {cs : Array Value} (h : WfC cs) {ep all cur : Int} (he : W64 ep) : WfC (curC cs ep all cur) := by
  unfold curC; split
  · exact h.mark he (by omega) (by omega)
  · exact h
theorem WfC.fin {cs c : Array Value} (h : WfC cs) (hc : WfC c) (ep : Int) : ∀ k, WfC (finN cs c ep k)
  | 0 => hc
  | k + 1 => by
    unfold finN; split
    · unfold oldK
      refine (WfC.fin h hc ep k).mvchk h (.inr (.inr rfl)) ?_
      have := wayK_lt k
      omega
    · exact WfC.fin h hc ep k
theorem fin_out {cs c : Array Value} (h : WfC cs) (hc : WfC c) (ep : Int) {i : Nat} (hi : i < 1059 ∨ 1092 ≤ i) : ∀ k, (finN cs c ep k)[i]? = c[i]?
  | 0 => rfl
  | k + 1 => by
    have hk := wayK_lt k
    have hs := h.size
    have hs2 := (h.fin hc ep k).size
    have e1 : (oldK cs (wayK k)).size = 33 := by unfold oldK; simp; omega
    unfold finN; split
    · rw [get_patch_out (by omega) (by omega)]; exact fin_out h hc ep hi k
    · exact fin_out h hc ep hi k
theorem prev_out {cs : Array Value} (h : cs.size = 1957) {ep all prev : Int} {i : Nat} (hb : 990 ≠ i) (hi : i < 1026 ∨ 1059 ≤ i) : (prevC cs ep all prev)[i]? = cs[i]? := by
  unfold prevC; split
  · exact mark_out h hb hi
  · rfl
theorem cur_out {cs : Array Value} (h : cs.size = 1957) {ep all cur : Int} {i : Nat} (hb : 989 ≠ i) (hi : i < 1026 ∨ 1059 ≤ i) : (curC cs ep all cur)[i]? = cs[i]? := by
  unfold curC; split
  · exact mark_out h hb hi
  · rfl
theorem weigh_epoch {cs : Array Value} (h : WfC cs) : W64 (cN cs 33 / 4) := by
  obtain ⟨-, h1, h2⟩ := h.u64 33 rfl
  exact ⟨by omega, by omega⟩
theorem WfC.weigh {cs : Array Value} (h : WfC cs) (all prev cur : Int) : WfC (weighC cs all prev cur) :=
  h.fin ((h.shift.prev (weigh_epoch h)).cur (weigh_epoch h)) _ 4
/-- What Weigh leaves as it was. -/
theorem weigh_out {cs : Array Value} (h : WfC cs) {all prev cur : Int} {i : Nat} (hi : i < 989 ∨ 1092 ≤ i) : (weighC cs all prev cur)[i]? = cs[i]? := by
  have he := weigh_epoch h
  have h1 := h.shift
  have h2 : WfC (prevC (shiftC cs) (cN cs 33 / 4) all prev) := h1.prev he
  unfold weighC
  show (finN cs _ _ 4)[i]? = _
  rw [fin_out h (h2.cur he) _ (by omega), cur_out h2.size (by omega) (by omega), prev_out h1.size (by omega) (by omega), shift_out h.size (by omega)]
theorem weigh_slice {cs : Array Value} (h : WfC cs) {all prev cur : Int} {i : Nat} (hi : isSO i) : (weighC cs all prev cur)[i]? = cs[i]? :=
  weigh_out h (by rcases hi with rfl | rfl | rfl | rfl | rfl | rfl | rfl <;> omega)
theorem IsSt.weigh {w : World} {B : Nat} {cs : Array Value} {L : Nat → List Value} (h : IsSt w B cs L) (all prev cur : Int) : IsSt w B (weighC cs all prev cur) L :=
  ⟨h.wf.weigh _ _ _, fun k hk => let ⟨a, n, c, e, s⟩ := h.sl k hk; ⟨a, n, c, (weigh_slice h.wf hk).trans e, s⟩, h.el⟩

end Go.Proofs.Ytikbkcidalippaa
