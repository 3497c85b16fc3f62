/-
  JustSafe's states: bare ones (no validators), along any weights: what one round does to the invariant. Plain Lean.
-/
import Derived.Test.YtikbkcidalippaaAwake
namespace Go.Proofs.Ytikbkcidalippaa
open Go.RowKit
set_option maxRecDepth 100000

/-- Nothing behind the slices: whatever the world. -/
theorem bare_any {w w' : World} {B B' : Nat} {cs : Array Value} (h : IsSt w B cs (fun _ => [])) : IsSt w' B' cs (fun _ => []) :=
  ⟨h.wf, fun k hk => by
    obtain ⟨a, n, c, e, s⟩ := h.sl k hk
    have hn : n = 0 := by
      have := s.len
      simp only [List.length_nil] at this
      rcases Nat.mul_eq_zero.1 this.symm with h0 | h0
      · exact h0
      · unfold esz at h0; split at h0 <;> (try split at h0) <;> (try split at h0) <;> cases h0
    subst hn
    exact ⟨a, 0, c, e, ⟨by simp, s.le, s.max, by simp, s.nil, fun h => absurd h (by omega)⟩⟩, h.el⟩

/-- The world that is nowhere looked at. -/
structure InvS (X : Array Value) (k : Nat) : Prop where
  is : ∀ (w : World) (B : Nat), IsSt w B X (fun _ => [])
  slot : cN X 33 = 11 + 4 * k
  deps : cN X 720 = 0
  head : cN X 43 = 0
  slash : ∀ i, 979 ≤ i → i < 987 → cN X i = 0
  f1 : cN X 1059 ≤ cN X 993
  f2 : cN X 993 ≤ cN X 1026
  f3 : cN X 1026 ≤ 1 + k
  f0 : 0 ≤ cN X 1059
theorem invS_start : InvS (stn 11) 0 := by
  have z : ∀ i, i ≠ 33 → i < 1957 → cN (stn 11) i = 0 := fun i h1 h2 => stn_num h1 h2
  refine ⟨fun w B => stn_is ⟨by decide, by decide⟩ w B, cN_of (stn_slot 11), z _ (by decide) (by decide), z _ (by decide) (by decide), fun i h1 h2 => z i (by omega) (by omega), ?_, ?_, ?_, ?_⟩
  all_goals (repeat rw [z _ (by decide) (by decide)]); decide
/-- Other roots. -/
structure SameR (X X' : Array Value) : Prop where
  wf : WfC X'
  out : ∀ i, i < 141 ∨ 397 ≤ i → X'[i]? = X[i]?
theorem SameR.inv {X X' : Array Value} {k : Nat} (h : SameR X X') (hi : InvS X k) : InvS X' k := by
  have e : ∀ i, i < 141 ∨ 397 ≤ i → cN X' i = cN X i := fun i hh => cN_eq (h.out i hh)
  refine ⟨fun w B => ?_, by rw [e _ (by decide)]; exact hi.slot, by rw [e _ (by decide)]; exact hi.deps, by rw [e _ (by decide)]; exact hi.head, fun i h1 h2 => by rw [e _ (by omega)]; exact hi.slash i h1 h2, ?_, ?_, ?_, ?_⟩
  · refine ⟨h.wf, fun k hk => ?_, (hi.is w B).el⟩
    obtain ⟨a, n, c, e1, s⟩ := (hi.is w B).sl k hk
    exact ⟨a, n, c, by rw [h.out k (by rcases hk with rfl | rfl | rfl | rfl | rfl | rfl | rfl <;> decide)]; exact e1, s⟩
  · rw [e _ (by decide), e _ (by decide)]; exact hi.f1
  · rw [e _ (by decide), e _ (by decide)]; exact hi.f2
  · rw [e _ (by decide)]; exact hi.f3
  · rw [e _ (by decide)]; exact hi.f0
theorem InvS.right {X : Array Value} {k : Nat} (h : InvS X k) (hk : k < 20) : RightP X (fun _ => []) := by
  have s := h.slot
  have := h.f1; have := h.f2; have := h.f3
  refine right_bare (by omega) (by rw [h.deps]; decide) (by rw [h.head]; omega) (by omega) (by omega) (by omega) h.slash

/-- What Weigh does to it: Y; then the slot goes on. -/
structure StepS (X Y : Array Value) (k : Nat) : Prop where
  wf : WfC Y
  just : cN X 1026 ≤ cN Y 1026
  fin : cN X 1059 ≤ cN Y 1059
  ahead : cN Y 1059 ≤ cN Y 1026
  one : cN Y 1059 = cN X 1059 ∨ cN Y 1059 = cN X 993 ∨ cN Y 1059 = cN X 1026
  slot : Y[33]? = some (.int .u64 (11 + 4 * k))
  next : InvS (Y.setIfInBounds 33 (.int .u64 (11 + 4 * k + 4))) (k + 1)
theorem InvS.step {X cs : Array Value} {k : Nat} (h : InvS X k) (hk : k < 20) {w : World} {B : Nat} (hst : IsSt w B cs (fun _ => [])) (hcs : ∀ i, ¬ isSO i → cs[i]? = X[i]?) (a b : Int) : StepS X (weighC cs 99 a b) k := by
  have hw := hst.wf
  have e : ∀ i, ¬ isSO i → cN cs i = cN X i := fun i hi => cN_eq (hcs i hi)
  have e33 : cN cs 33 = 11 + 4 * k := (e 33 (by decide)).trans h.slot
  have ep : cN cs 33 / 4 = 2 + k := by rw [e33]; omega
  have hj := weigh_just hw 99 a b
  have ho := weigh_old hw 99 a b
  have hf := weigh_final hw 99 a b
  rw [e 1026 (by decide), e 993 (by decide), e 1059 (by decide)] at hf
  rw [e 1026 (by decide)] at ho
  rw [e 1026 (by decide), ep] at hj
  have g1 := h.f1; have g2 := h.f2; have g3 := h.f3; have g0 := h.f0
  have j1 : cN X 1026 ≤ cN (weighC cs 99 a b) 1026 ∧ cN (weighC cs 99 a b) 1026 ≤ 2 + k := by
    rw [hj]
    split
    · omega
    · split
      · unfold subz; split <;> omega
      · omega
  have f1 : cN (weighC cs 99 a b) 1059 ≤ cN X 1026 ∧ cN X 1059 ≤ cN (weighC cs 99 a b) 1059 := by
    rcases hf with hf | hf | hf <;> rw [hf] <;> omega
  have hout : ∀ i, i < 989 ∨ 1092 ≤ i → (weighC cs 99 a b)[i]? = cs[i]? := fun i hi => weigh_out hw hi
  have hwf := hw.weigh 99 a b
  have e2 : ∀ i, i ≠ 33 → i < 989 → ¬ isSO i → cN ((weighC cs 99 a b).setIfInBounds 33 (.int .u64 (11 + 4 * k + 4))) i = cN X i := fun i h1 h2 h3 => by
    rw [cN_eq (get_set_ne' (Ne.symm h1)), cN_eq (hout i (by omega)), e i h3]
  have e3 : ∀ i, i ≠ 33 → cN ((weighC cs 99 a b).setIfInBounds 33 (.int .u64 (11 + 4 * k + 4))) i = cN (weighC cs 99 a b) i := fun i h1 => cN_eq (get_set_ne' (Ne.symm h1))
  have hn : W64 (11 + 4 * (k : Int) + 4) := ⟨by omega, by omega⟩
  refine ⟨hwf, by omega, by omega, by omega, hf, ?_, ?_⟩
  · rw [hout 33 (by omega), (hw.u64 33 rfl).1, e33]
  · refine ⟨fun w' B' => ?_, ?_, ?_, ?_, fun i h1 h2 => ?_, ?_, ?_, ?_, ?_⟩
    · refine ⟨hwf.set hn, fun j hj => ?_, fun j hj i u hu => by simp at hu⟩
      obtain ⟨a', n, c, e1, s⟩ := (bare_any (w' := w') (B' := B') hst).sl j hj
      refine ⟨a', n, c, ?_, s⟩
      rw [get_set_ne' (by rintro rfl; exact absurd hj (by decide)), weigh_slice hw hj]
      exact e1
    · rw [cN_of (get_set_eq' (by rw [hwf.size]; decide))]; omega
    · rw [e2 _ (by decide) (by decide) (by decide)]; exact h.deps
    · rw [e2 _ (by decide) (by decide) (by decide)]; exact h.head
    · rw [e2 i (by omega) (by omega) (by unfold isSO; omega)]; exact h.slash i h1 h2
    · rw [e3 _ (by decide), e3 _ (by decide), ho]; omega
    · rw [e3 _ (by decide), e3 _ (by decide), ho]; omega
    · rw [e3 _ (by decide)]; omega
    · rw [e3 _ (by decide)]; omega

/-- A root of two bytes. -/
noncomputable def root2 (a b : Int) : Array Value := ((zc Try.prog 24).setIfInBounds 0 (.int .u8 a)).setIfInBounds 1 (.int .u8 b)
theorem szU8 : (Try.prog.info? 5).map (·.size) = some 1 := by kernel_rfl
theorem built_root2 (a b : Int) : Try.prog.built 24 [(0, .int .u8 a), (1, .int .u8 b)] = some (root2 a b) := by
  have hs : (zc Try.prog 24).size = 32 := szzRoot
  rw [built_array (by kernel_rfl) Try.underlying24 szU8]
  unfold root2
  generalize zc Try.prog 24 = Z at *
  rw [fill_cons (off := 0) rfl (by show 0 + 1 ≤ _; omega), fill_cons (off := 1) rfl (by show 1 + 1 ≤ (patch Z 0 #[.int .u8 a]).size; rw [size_patch (by simp; omega)]; omega), fill_nil]
  show some (patch (patch Z 0 #[.int .u8 a]) 1 #[.int .u8 b]) = _
  rw [← patch_set (by rw [size_patch (by simp; omega)]; omega), ← patch_set (by omega)]
theorem zroot_u8 : ∀ (j : Nat) v, (zc Try.prog 24)[j]? = some v → CK.u8.ok v := by
  intro j v h
  have hz : zc Try.prog 24 = Array.replicate 32 (.int .u8 0) := by kernel_rfl
  rw [hz, Array.getElem?_replicate] at h
  split at h
  · cases h; exact ⟨by decide, by decide⟩
  · cases h
theorem root2_size (a b : Int) : (root2 a b).size = 32 := by unfold root2; rw [Array.size_setIfInBounds, Array.size_setIfInBounds]; exact szzRoot
theorem root2_u8 {a b : Int} (ha : W8 a) (hb : W8 b) : ∀ (j : Nat) v, (root2 a b)[j]? = some v → CK.u8.ok v := by
  intro j v h
  unfold root2 at h
  rw [Array.getElem?_setIfInBounds] at h
  split at h
  · split at h
    · cases h; exact hb
    · cases h
  · rw [Array.getElem?_setIfInBounds] at h
    split at h
    · split at h
      · cases h; exact ha
      · cases h
    · exact zroot_u8 j v h
theorem root2_ones {a b : Int} (ha : W8 a) (hb : W8 b) : (root2 a b).all (·.oneCell') = true := by
  rw [Array.all_eq_true_iff_forall_mem]
  intro v hv
  obtain ⟨i, hi, e⟩ := Array.mem_iff_getElem.1 hv
  exact CK.ok_one (root2_u8 ha hb i v (by rw [Array.getElem?_eq_getElem hi, e]))
theorem SameR.put {X X' : Array Value} (h : SameR X X') {m : Nat} (hm : m < 8) {a b : Int} (ha : W8 a) (hb : W8 b) : SameR X (patch X' (141 + m * 32) (root2 a b)) := by
  have hs := root2_size a b
  have hx := h.wf.size
  refine ⟨h.wf.patch (by omega) fun j v hj => ?_, fun i hi => ?_⟩
  · have hj32 : j < 32 := by rw [← hs]; exact (Array.getElem?_eq_some_iff.1 hj).1
    rw [ck_root (by omega) (by omega)]
    exact root2_u8 ha hb j v hj
  · rw [get_patch_out (by omega) (by omega)]
    exact h.out i hi

end Go.Proofs.Ytikbkcidalippaa
