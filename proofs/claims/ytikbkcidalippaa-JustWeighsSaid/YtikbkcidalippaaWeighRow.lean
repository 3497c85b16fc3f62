/-
  JustWeighs answers yes at every state and all weights, and leaves them as they were. No condition.
-/
import Derived.Test.YtikbkcidalippaaRow
import Derived.Test.YtikbkcidalippaaOpenSt
import Derived.Test.YtikbkcidalippaaWeighLaw
import Derived.Test.YtikbkcidalippaaWit
import Derived.Carry
namespace Go.Proofs.Ytikbkcidalippaa
open Go.ChangeShapes Go.WideShapes Go.ChangeAt Go.RowKit Go.Deep
set_option maxRecDepth 100000

set_option maxHeartbeats 1000000 in
theorem weighs_lifted (os : Os) (started : os.Started) (H : Type) (enc : TypeId × Value → H) :
    ReturnsInHanded {} Try.checked os 3 .any (Rows.justWeighsSpec.pre6 enc Try.prog Try.f3 Rows.justWeighsRow.domain false) (Rows.justWeighsSpec.post enc Try.prog Try.f3 false true false false) := by
  refine returnsInHanded_of_change_sized (C := Try.checked) Try.own started (by kernel_rfl) Try.func3
    (wit_of (enc := enc) (C := Try.checked) #[.agg zst, .int .u64 0, .int .u64 0, .int .u64 0] 8 (by kernel_rfl) (by kernel_rfl) (by kernel_rfl) Try.func3 (by kernel_rfl) (by kernel_rfl) (by kernel_rfl) (by kernel_rfl) ?wok (by kernel_rfl) (by kernel_rfl)) ?_
  case wok =>
    intro w b j t v hj hv
    rw [Try.params3] at hj
    match j, hj, hv with
    | 0, hj, hv => cases hj; cases hv; exact zst_ok w _ b
    | 1, hj, hv => cases hj; cases hv; exact int_ok w _ b Try.underlying22 ⟨by decide, by decide⟩
    | 2, hj, hv => cases hj; cases hv; exact int_ok w _ b Try.underlying22 ⟨by decide, by decide⟩
    | 3, hj, hv => cases hj; cases hv; exact int_ok w _ b Try.underlying22 ⟨by decide, by decide⟩
    | j + 4, hj, hv => simp at hj
  intro W base args ds gs before hval0 hW _ hsz0 _
  have hsz : (DataW.weightsEach Try.prog (Try.f3.params.toList ++ Rows.justWeighsSpec.plain.varTypes Try.prog) (ds ++ gs)).all (· ≤ reachBytes) = true := hsz0
  clear hsz0
  have hval : ∀ (j : Nat) t v, Try.f3.params[j]? = some t → args[j]? = some v → Value.okWide Try.prog W .any base t v := hval0
  have hW' := hW
  obtain ⟨p, q, hA0, hV, rfl, -, -⟩ := hW
  have hA : DataW.TrodAll enc Try.prog W 0 (fun _ => true) true Try.f3.params.toList args.toList ds p := hA0
  rw [Try.params3] at hA hval hsz
  obtain ⟨v0, v1, v2, v3, d0, d1, d2, d3, p0, p1, p2, p3, hargs, rfl, rfl, h0, h1, h2, h3⟩ := trodAll_four hA
  obtain ⟨rfl, rfl⟩ := trodVars_none hV
  clear hA0 hval0
  obtain ⟨cs, L, rfl, hst⟩ := open_state (hval 0 49 v0 rfl (by rw [hargs]; rfl)) h0 (fun m hm => by
    have := List.all_eq_true.1 hsz m (DataW.weights_mem_each (j := 0) rfl rfl m hm); simpa using this)
  obtain ⟨q1, rfl, rfl, rfl, wq1⟩ := open_int Try.underlying22 (hval 1 22 v1 rfl (by rw [hargs]; rfl)) h1
  have hq1 : W64 q1 := by
    simp only [Lit.wf, IntKind.min, IntKind.max, IntKind.signed, IntKind.bits] at wq1
    simp at wq1
    exact ⟨by omega, by omega⟩
  obtain ⟨q2, rfl, rfl, rfl, wq2⟩ := open_int Try.underlying22 (hval 2 22 v2 rfl (by rw [hargs]; rfl)) h2
  have hq2 : W64 q2 := by
    simp only [Lit.wf, IntKind.min, IntKind.max, IntKind.signed, IntKind.bits] at wq2
    simp at wq2
    exact ⟨by omega, by omega⟩
  obtain ⟨q3, rfl, rfl, rfl, wq3⟩ := open_int Try.underlying22 (hval 3 22 v3 rfl (by rw [hargs]; rfl)) h3
  have hq3 : W64 q3 := by
    simp only [Lit.wf, IntKind.min, IntKind.max, IntKind.signed, IntKind.bits] at wq3
    simp at wq3
    exact ⟨by omega, by omega⟩
  subst hargs
  refine (weighs_any cs L W.heap.size W (Nat.le_refl _) hst q1 q2 q3 hq1 hq2 hq3).mono ?_
  rintro e W' ⟨rfl, hb⟩
  exact ⟨_, rfl, law_post (by rw [Try.params3]; decide) hW' rfl Try.underlying4 rfl rfl rfl rfl hb⟩

theorem weighs_holds : Rows.JustWeighsSaid :=
  OpenClaim.holds_of_wide 3 Try.f3 rfl rfl rfl rfl rfl rfl rfl ⟨rfl, rfl, rfl, rfl, rfl⟩ rfl rfl rfl rfl rfl (by kernel_rfl) Try.func3 (by kernel_rfl)
    (of_decide_eq_true (by kernel_rfl)) (by unfold Func.isWrapper; first | (rw [if_pos (by decide +kernel)]; kernel_rfl) | (rw [if_neg (by decide +kernel)]; exact ⟨rfl, rfl⟩))
    (fun os started H enc _ => weighs_lifted os started H enc)

#print axioms weighs_holds

end Go.Proofs.Ytikbkcidalippaa
