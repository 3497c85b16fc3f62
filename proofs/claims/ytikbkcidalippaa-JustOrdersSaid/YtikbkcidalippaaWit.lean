/-
  The zero state is a state: so each of these rows has a start that fits.
-/
import Derived.Test.YtikbkcidalippaaRow
import Derived.Test.YtikbkcidalippaaZero
import Derived.Handed
namespace Go.Proofs.Ytikbkcidalippaa
open Go.ChangeShapes Go.WideShapes Go.ChangeAt Go.RowKit Go.Deep
set_option maxRecDepth 100000

theorem kindOf_zero {P : Program} {w : World} {r : Reach} {b : Nat} {u : TypeId} {k : CK} (hk : kindOf (P.underlying u) = some k) : Cell.okWide P w r b u k.zero := by
  cases hd : P.underlying u with
  | none => simp [kindOf, hd] at hk
  | some d =>
    rw [hd] at hk
    unfold Cell.okWide
    rw [hd]
    cases d
    case int kk =>
      cases kk <;> simp only [kindOf, Option.some.injEq, reduceCtorEq] at hk
      all_goals
        subst hk
        show Cell.ok P w r b u _
        unfold Cell.ok
        rw [hd]
        exact ⟨rfl, by decide, by decide⟩
    case bool =>
      simp only [kindOf, Option.some.injEq] at hk
      subst hk
      show Cell.ok P w r b u _
      unfold Cell.ok
      rw [hd]
      trivial
    case slice e =>
      simp only [kindOf, Option.some.injEq] at hk
      subst hk
      show Cell.ok P w r b u _
      unfold Cell.ok
      rw [hd]
      trivial
    all_goals simp [kindOf] at hk
theorem zst_ok (w : World) (r : Reach) (b : Nat) : Value.okWide Try.prog w r b 49 (.agg zst) := by
  unfold Value.okWide
  rw [Try.underlying49]
  refine ⟨zst, rfl, zst_size.trans (by kernel_rfl), stTs, stTs_eq, ⟨1, by rw [stTs_len, zst_size]⟩, fun i v hv => ?_⟩
  have hi : i < 1957 := by rw [← zst_size]; exact (Array.getElem?_eq_some_iff.1 hv).1
  obtain ⟨u, hu, hk⟩ := stTs_kind hi
  rw [stTs_len, Nat.mod_eq_of_lt hi]
  refine ⟨u, hu, ?_⟩
  rw [zst_get hi] at hv
  rw [← Option.some.inj hv]
  exact kindOf_zero hk

theorem int_ok {P : Program} (w : World) (r : Reach) (b : Nat) {t : TypeId} {k : IntKind} (ht : P.underlying t = some (.int k)) (h : k.has 0) : Value.okWide P w r b t (.int k 0) := by
  unfold Value.okWide
  rw [ht]
  show Cell.okWide P w r b t _
  unfold Cell.okWide
  rw [ht]
  show Cell.ok P w r b t _
  unfold Cell.ok
  rw [ht]
  exact ⟨rfl, h⟩

section
variable {H : Type} {enc : TypeId × Value → H}
/-- A start that fits: arguments that are shown to be of their types. -/
theorem wit_of {C : Checked} {os : Os} {f : FuncId} {fn : Func} {s : ChangeSpec} {conds : List PathCond} {apart : Bool} (args : Array Value) (fuel : Nat)
    (hv : (World.plainHolding C.prog os ⟨#[], args, []⟩).variablesB C.prog = true)
    (hr : ((World.plainHolding C.prog os ⟨#[], args, []⟩).heap.toList.drop C.prog.globals.size).take ((begin C.prog (fun _ _ => 0) default).world.heap.size - C.prog.globals.size) =
      (begin C.prog (fun _ _ => 0) default).world.heap.toList.drop C.prog.globals.size)
    (hi : C.prog.inits.idxOf? f = none) (hf : C.prog.funcs[f]? = some fn) (h1 : fn.body.isSome = true) (h2 : fn.ours = false) (h3 : fn.nfree = 0) (h4 : args.size = fn.params.size)
    (hok : ∀ (w : World) (b : Nat) (j : Nat) t v, fn.params[j]? = some t → args[j]? = some v → Value.okWide C.prog w .any b t v)
    (hpre : s.preB enc C.prog fn conds apart (World.plainHolding C.prog os ⟨#[], args, []⟩).memory args fuel = true)
    (hsz : s.sizedB enc C.prog fn apart (World.plainHolding C.prog os ⟨#[], args, []⟩).memory args fuel = true) :
    ∃ (w : World) (tape : Tape) (i : Input), w.os = os ∧ (w.forCall tape i).Shaped C.prog ∧ i.vars = [] ∧ Input.okWide C.prog (w.forCall tape i) .any w.heap.size f i ∧
      s.pre6 enc C.prog fn conds apart (w.forCall tape i).memory i.args ∧ ({} : Assume).holds C.prog (lone (Frame.enter C.prog f i.args .normal) [] (w.forCall tape i)) :=
  ⟨World.holding C.prog os ⟨#[], args, []⟩, fun _ _ => 0, ⟨#[], args, []⟩, rfl, World.shaped_of_B hv hr, rfl,
    ⟨fun o ho => (by simp at ho), fun gv hg => (by simp at hg), hi, fn, hf, h1, h2, h3, h4, fun j t v => hok _ _ j t v⟩, ⟨ChangeSpec.pre_of_preB hpre, sizedMet_of_sizedB hsz⟩, by
    simp only [Assume.holds]
    exact ⟨by simp, by simp, fun h => (by cases h), by simp, by simp⟩⟩
end

end Go.Proofs.Ytikbkcidalippaa
