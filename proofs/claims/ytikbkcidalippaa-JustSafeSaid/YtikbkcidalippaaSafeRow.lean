/-
  JustSafe answers yes at every list of weights, and leaves it as it was. No condition.
-/
import Derived.Test.YtikbkcidalippaaRow
import Derived.Test.YtikbkcidalippaaSafe
import Derived.Deep.Slices
namespace Go.Proofs.Ytikbkcidalippaa
open Go.ChangeShapes Go.WideShapes Go.ChangeAt Go.RowKit Go.Deep
set_option maxRecDepth 100000

set_option maxHeartbeats 1000000 in
theorem safe_lifted (os : Os) (started : os.Started) (H : Type) (enc : TypeId × Value → H) :
    ReturnsInHanded {} Try.checked os 5 .any (Rows.justSafeSpec.pre6 enc Try.prog Try.f5 Rows.justSafeRow.domain false) (Rows.justSafeSpec.post enc Try.prog Try.f5 false true false false) := by
  refine returnsInHanded_of_change_sized (C := Try.checked) Try.own started (by kernel_rfl) Try.func5
    (ChangeSpec.witness6 (enc := enc) (C := Try.checked) false ⟨#[], #[.slice none 0 0], []⟩ 8 (by kernel_rfl) (by kernel_rfl) (by kernel_rfl) (by kernel_rfl)) ?_
  intro W base args ds gs before hval0 hW _ hsz0 _
  have hsz : (DataW.weightsEach Try.prog (Try.f5.params.toList ++ Rows.justSafeSpec.plain.varTypes Try.prog) (ds ++ gs)).all (· ≤ reachBytes) = true := hsz0
  clear hsz0
  have hval : ∀ (j : Nat) t v, Try.f5.params[j]? = some t → args[j]? = some v → Value.okWide Try.prog W .any base t v := hval0
  have hW' := hW
  obtain ⟨p, q, hA0, hV, rfl, -, -⟩ := hW
  have hA : DataW.TrodAll enc Try.prog W 0 (fun _ => true) true Try.f5.params.toList args.toList ds p := hA0
  rw [Try.params5] at hA hval hsz
  obtain ⟨v0, d0, hargs, rfl, h0⟩ := trodAll_one hA
  obtain ⟨rfl, rfl⟩ := trodVars_none hV
  clear hA0 hval0
  have hc : Cell.okWide Try.prog W .any base 37 v0 := by
    have h := hval 0 37 v0 rfl (by rw [hargs]; rfl)
    unfold Value.okWide at h
    rw [Try.underlying37] at h
    exact h
  obtain ⟨a0, n0, c0, rfl⟩ := CK.ok_slice (kindOf_ok (k := .slice) (by rw [Try.underlying37]; rfl) hc)
  obtain ⟨fuel, hf⟩ := h0
  obtain ⟨a, n, c, he, hs, hk⟩ := open_sl 722 Try.underlying37 (by kernel_rfl) (by decide) (by kernel_rfl) (spot_of Try.underlying37 hc) hf
    (fun m hm => by have := List.all_eq_true.1 hsz m (DataW.weights_mem_each (j := 0) rfl rfl m hm); simpa using this)
    (fun m cs' y h => el_u64 722 (fun j => rfl) rfl h)
  have hargs' : args = #[.slice a n c] := by rw [← he]; exact hargs
  subst hargs'
  refine (safe_any a n c W.heap.size _ W (Nat.le_refl _) hs hk).mono ?_
  rintro e W' ⟨rfl, hb⟩
  exact ⟨_, rfl, law_post (by rw [Try.params5]; decide) hW' rfl Try.underlying4 rfl rfl rfl rfl hb⟩

theorem safe_holds : Rows.JustSafeSaid :=
  OpenClaim.holds_of_wide 5 Try.f5 rfl rfl rfl rfl rfl rfl rfl ⟨rfl, rfl, rfl, rfl, rfl⟩ rfl rfl rfl rfl rfl (by kernel_rfl) Try.func5 (by kernel_rfl)
    (of_decide_eq_true (by kernel_rfl)) (by unfold Func.isWrapper; first | (rw [if_pos (by decide +kernel)]; kernel_rfl) | (rw [if_neg (by decide +kernel)]; exact ⟨rfl, rfl⟩))
    (fun os started H enc _ => safe_lifted os started H enc)

#print axioms safe_holds

end Go.Proofs.Ytikbkcidalippaa
