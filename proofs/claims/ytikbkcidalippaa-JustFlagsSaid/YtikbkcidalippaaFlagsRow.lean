/-
  JustFlags answers yes at every state, flag and epoch, and leaves them as they were. No condition.
-/
import Derived.Test.YtikbkcidalippaaRow
import Derived.Test.YtikbkcidalippaaOpenSt
import Derived.Test.YtikbkcidalippaaFlags
import Derived.Test.YtikbkcidalippaaWit
namespace Go.Proofs.Ytikbkcidalippaa
open Go.ChangeShapes Go.WideShapes Go.ChangeAt Go.RowKit Go.Deep
set_option maxRecDepth 100000

set_option maxHeartbeats 1000000 in
theorem flags_lifted (os : Os) (started : os.Started) (H : Type) (enc : TypeId × Value → H) :
    ReturnsInHanded {} Try.checked os 6 .any (Rows.justFlagsSpec.pre6 enc Try.prog Try.f6 Rows.justFlagsRow.domain false) (Rows.justFlagsSpec.post enc Try.prog Try.f6 false true false false) := by
  refine returnsInHanded_of_change_sized (C := Try.checked) Try.own started (by kernel_rfl) Try.func6
    (wit_of (enc := enc) (C := Try.checked) #[.agg zst, .int .i64 0, .int .u64 0] 8 (by kernel_rfl) (by kernel_rfl) (by kernel_rfl) Try.func6 (by kernel_rfl) (by kernel_rfl) (by kernel_rfl) (by kernel_rfl) ?wok (by kernel_rfl) (by kernel_rfl)) ?_
  case wok =>
    intro w b j t v hj hv
    rw [Try.params6] at hj
    match j, hj, hv with
    | 0, hj, hv => cases hj; cases hv; exact zst_ok w _ b
    | 1, hj, hv => cases hj; cases hv; exact int_ok w _ b Try.underlying3 ⟨by decide, by decide⟩
    | 2, hj, hv => cases hj; cases hv; exact int_ok w _ b Try.underlying22 ⟨by decide, by decide⟩
    | j + 3, hj, hv => simp at hj
  intro W base args ds gs before hval0 hW _ hsz0 _
  have hsz : (DataW.weightsEach Try.prog (Try.f6.params.toList ++ Rows.justFlagsSpec.plain.varTypes Try.prog) (ds ++ gs)).all (· ≤ reachBytes) = true := hsz0
  clear hsz0
  have hval : ∀ (j : Nat) t v, Try.f6.params[j]? = some t → args[j]? = some v → Value.okWide Try.prog W .any base t v := hval0
  have hW' := hW
  obtain ⟨p, q, hA0, hV, rfl, -, -⟩ := hW
  have hA : DataW.TrodAll enc Try.prog W 0 (fun _ => true) true Try.f6.params.toList args.toList ds p := hA0
  rw [Try.params6] at hA hval hsz
  obtain ⟨v0, v1, v2, d0, d1, d2, p0, p1, p2, hargs, rfl, rfl, h0, h1, h2⟩ := trodAll_three hA
  obtain ⟨rfl, rfl⟩ := trodVars_none hV
  clear hA0 hval0
  obtain ⟨cs, L, rfl, hst⟩ := open_state (hval 0 49 v0 rfl (by rw [hargs]; rfl)) h0 (fun m hm => by
    have := List.all_eq_true.1 hsz m (DataW.weights_mem_each (j := 0) rfl rfl m hm); simpa using this)
  obtain ⟨fl, rfl, rfl, rfl, wfl⟩ := open_int Try.underlying3 (hval 1 3 v1 rfl (by rw [hargs]; rfl)) h1
  obtain ⟨q, rfl, rfl, rfl, wq⟩ := open_int Try.underlying22 (hval 2 22 v2 rfl (by rw [hargs]; rfl)) h2
  have hq : W64 q := by
    simp only [Lit.wf, IntKind.min, IntKind.max, IntKind.signed, IntKind.bits] at wq
    simp at wq
    exact ⟨by omega, by omega⟩
  subst hargs
  refine (flags_any cs L W.heap.size W (Nat.le_refl _) hst fl q hq).mono ?_
  rintro e W' ⟨rfl, hb⟩
  exact ⟨_, rfl, law_post (by rw [Try.params6]; decide) hW' rfl Try.underlying4 rfl rfl rfl rfl hb⟩

theorem flags_holds : Rows.JustFlagsSaid :=
  OpenClaim.holds_of_wide 6 Try.f6 rfl rfl rfl rfl rfl rfl rfl ⟨rfl, rfl, rfl, rfl, rfl⟩ rfl rfl rfl rfl rfl (by kernel_rfl) Try.func6 (by kernel_rfl)
    (of_decide_eq_true (by kernel_rfl)) (by unfold Func.isWrapper; first | (rw [if_pos (by decide +kernel)]; kernel_rfl) | (rw [if_neg (by decide +kernel)]; exact ⟨rfl, rfl⟩))
    (fun os started H enc _ => flags_lifted os started H enc)

#print axioms flags_holds

end Go.Proofs.Ytikbkcidalippaa
