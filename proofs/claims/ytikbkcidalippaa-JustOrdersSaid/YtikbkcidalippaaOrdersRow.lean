/-
  JustOrders answers yes at every state, and leaves it as it was. No condition.
-/
import Derived.Test.YtikbkcidalippaaRow
import Derived.Test.YtikbkcidalippaaOpenSt
import Derived.Test.YtikbkcidalippaaOrdersLaw
import Derived.Test.YtikbkcidalippaaWit
import Derived.Carry
namespace Go.Proofs.Ytikbkcidalippaa
open Go.ChangeShapes Go.WideShapes Go.ChangeAt Go.RowKit Go.Deep
set_option maxRecDepth 100000

set_option maxHeartbeats 1000000 in
theorem orders_lifted (os : Os) (started : os.Started) (H : Type) (enc : TypeId × Value → H) :
    ReturnsInHanded {} Try.checked os 7 .any (Rows.justOrdersSpec.pre6 enc Try.prog Try.f7 Rows.justOrdersRow.domain false) (Rows.justOrdersSpec.post enc Try.prog Try.f7 false true false false) := by
  refine returnsInHanded_of_change_sized (C := Try.checked) Try.own started (by kernel_rfl) Try.func7
    (wit_of (enc := enc) (C := Try.checked) #[.agg zst] 8 (by kernel_rfl) (by kernel_rfl) (by kernel_rfl) Try.func7 (by kernel_rfl) (by kernel_rfl) (by kernel_rfl) (by kernel_rfl) ?wok (by kernel_rfl) (by kernel_rfl)) ?_
  case wok =>
    intro w b j t v hj hv
    rw [Try.params7] at hj
    match j, hj, hv with
    | 0, hj, hv => cases hj; cases hv; exact zst_ok w _ b
    | j + 1, hj, hv => simp at hj
  intro W base args ds gs before hval0 hW _ hsz0 _
  have hsz : (DataW.weightsEach Try.prog (Try.f7.params.toList ++ Rows.justOrdersSpec.plain.varTypes Try.prog) (ds ++ gs)).all (· ≤ reachBytes) = true := hsz0
  clear hsz0
  have hval : ∀ (j : Nat) t v, Try.f7.params[j]? = some t → args[j]? = some v → Value.okWide Try.prog W .any base t v := hval0
  have hW' := hW
  obtain ⟨p, q, hA0, hV, rfl, -, -⟩ := hW
  have hA : DataW.TrodAll enc Try.prog W 0 (fun _ => true) true Try.f7.params.toList args.toList ds p := hA0
  rw [Try.params7] at hA hval hsz
  obtain ⟨v0, d0, hargs, rfl, h0⟩ := trodAll_one hA
  obtain ⟨rfl, rfl⟩ := trodVars_none hV
  clear hA0 hval0
  obtain ⟨cs, L, rfl, hst⟩ := open_state (hval 0 49 v0 rfl (by rw [hargs]; rfl)) h0 (fun m hm => by
    have := List.all_eq_true.1 hsz m (DataW.weights_mem_each (j := 0) rfl rfl m hm); simpa using this)
  subst hargs
  refine (orders_any cs L W.heap.size W (Nat.le_refl _) hst  ).mono ?_
  rintro e W' ⟨rfl, hb⟩
  exact ⟨_, rfl, law_post (by rw [Try.params7]; decide) hW' rfl Try.underlying4 rfl rfl rfl rfl hb⟩

theorem orders_holds : Rows.JustOrdersSaid :=
  OpenClaim.holds_of_wide 7 Try.f7 rfl rfl rfl rfl rfl rfl rfl ⟨rfl, rfl, rfl, rfl, rfl⟩ rfl rfl rfl rfl rfl (by kernel_rfl) Try.func7 (by kernel_rfl)
    (of_decide_eq_true (by kernel_rfl)) (by unfold Func.isWrapper; first | (rw [if_pos (by decide +kernel)]; kernel_rfl) | (rw [if_neg (by decide +kernel)]; exact ⟨rfl, rfl⟩))
    (fun os started H enc _ => orders_lifted os started H enc)

#print axioms orders_holds

end Go.Proofs.Ytikbkcidalippaa
