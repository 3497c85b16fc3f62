/-
  The last step of each of these rows: a law that answers yes, and below whose beginning nothing has changed, leaves each argument reading as it read.
-/
import Derived.Test.YtikbkcidalippaaRows
import Derived.Test.YtikbkcidalippaaOpen
import Derived.ProofKit
import Derived.ReadAgain
import Derived.SizedLaws
import Derived.Below
namespace Go.Proofs.Ytikbkcidalippaa
open Go.ChangeShapes Go.WideShapes Go.ChangeAt Go.RowKit
set_option maxRecDepth 100000

theorem Try.own : ownKnob Try.prog.godebug = none := by kernel_rfl
theorem Try.kids : Kids Try.prog (· < Try.prog.types.size) := kids_rows (by kernel_rfl) (by kernel_rfl)
theorem Try.full : ∀ t e, t < Try.prog.types.size → Try.prog.underlying t = some (.slice e) → 0 < Try.prog.cellsOf e := slices_full_of Try.prog (by kernel_rfl)

section
variable {H : Type} {enc : TypeId × Value → H} {P : Program} {w w' : World} {base : Nat} {spare : Nat → Bool} {held : Bool}
theorem all_carry : ∀ {ts : List TypeId} {vs : List Value} {ds : List (DataW H)} {ps : List MemPlace}, DataW.TrodAll enc P w base spare held ts vs ds ps → (∀ p ∈ ps, w.sameAt w' p) → DataW.TrodAll enc P w' base spare held ts vs ds ps
  | [], [], [], _, h, _ => h
  | _ :: _, _ :: _, _ :: _, _, ⟨p, q, ⟨n, h1⟩, h2, e⟩, hs =>
    ⟨p, q, ⟨n, DataW.trod_carry n _ _ _ h1 fun x hx => hs x (by rw [e]; exact List.mem_append_left _ hx)⟩, all_carry h2 fun x hx => hs x (by rw [e]; exact List.mem_append_right _ hx), e⟩
end

section
variable {H : Type} {enc : TypeId × Value → H}
/-- A law has answered yes. -/
theorem law_post {f : Func} {s : ChangeSpec} {apart fresh handsOn again : Bool} {W W' : World} {args : Array Value} {ds gs : List (DataW H)} {before : List MemPlace} {tb : TypeId}
    (hT : ∀ t ∈ f.params.toList, t < Try.prog.types.size) (hW : DataW.Whole enc Try.prog f.params.toList s.vars apart W args.toList ds gs before)
    (hr : f.resultTypes = #[tb]) (htb : Try.prog.underlying tb = some .bool) (hv : s.vars = []) (h1 : (s.fn H (ds ++ gs)).results = [.lit (.bool true)]) (h2 : (s.fn H (ds ++ gs)).args = ds) (h3 : (s.fn H (ds ++ gs)).vars = [])
    (hb : Below W.heap.size W W') : s.post enc Try.prog f apart fresh handsOn again W args (.bool true) W' := by
  have hlt := hW.lt
  have hWh := hW
  obtain ⟨p, q, hA, hV, rfl, hz, hn⟩ := hW
  have hV' := hV
  rw [hv] at hV'
  obtain ⟨rfl, rfl⟩ := trodVars_none hV'
  simp only [List.append_nil] at hlt hz hn
  have hargs : ∀ sp : Nat → Bool, (∀ x ∈ p, sp x.block = true) → DataW.TrodAll enc Try.prog W' 0 sp true f.params.toList args.toList ds p := fun sp hsp =>
    all_carry (DataW.TrodAll.respare Try.kids Try.full hT hA hsp) fun x hx => hb.same (hlt x hx)
  have hres : ∀ (b : Nat) (sp : Nat → Bool) (hd : Bool), DataW.TrodAll enc Try.prog W' b sp hd f.resultTypes.toList ((Value.bool true).resultList f.resultTypes.size) [.lit (.bool true)] [] := fun b sp hd => by
    rw [hr]
    exact trodAll_mk1 (shut_bool htb true)
  have hold : ∀ x ∈ p, (fun b => decide (b < W.heap.size)) x.block = true := fun x hx => by simpa using hlt x hx
  have hvars : ∀ sp : Nat → Bool, DataW.TrodVars enc Try.prog W' sp s.vars [] [] := fun sp => by rw [hv]; exact rfl
  refine ⟨ds, [], p ++ [], [], p, [], hWh, ?_, ?_, ?_, ?_, fun _ => ⟨ok_one hr rfl (okWide_bool_mk htb true), [.lit (.bool true)] ++ ds, [], p, ⟨[] ++ p, [], trodAll_append (hargs _ fun _ _ => rfl) (hres _ _ _), hvars _, by simp, ?_, ?_⟩, ?_⟩⟩
  · rw [h1]; exact hres _ _ _
  · rw [h2]; exact hargs _ hold
  · rw [h3]; exact hvars _
  · exact World.keptBut_mono (fun x hx => ⟨by simpa using hx, Or.inr (Or.inl hx)⟩) (hb.frame (· ∈ p))
  · intro b off hp
    have hin : MemPlace.cell b off ∈ p := by simpa using hp
    rw [hb.frozen (hlt _ hin)]
    exact hz b off hin
  · intro ha
    simpa using hn ha
  · intro x hx _
    simpa using hx
end

end Go.Proofs.Ytikbkcidalippaa
