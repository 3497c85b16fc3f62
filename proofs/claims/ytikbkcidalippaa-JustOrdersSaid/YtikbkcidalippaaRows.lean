/-
  No cell of these rows narrows 'for every input' (looked for: loops, veiled, ifaces, maps, wideKeys, modest, calm, conditions, laid).
  DERIVED. THE GIVEN ROWS OF THIS SEAT. 5 by the template 'for every input the law returns true; each argument reads behind the call as it read before'; 0 by the template 'total and deterministic' (their statements: YtikbkcidalippaaTotals.lean).
  GIVEN WITH THE SEED: the statements are not yours to turn. If you find one false, say at which input.
  Laid BY PROGRAM, IN A SANDBOX (cutbox-rows.mjs): the forced cells as the released guide's own fill.sh prints them over the translation ea319c08ee61a582… (all of the seat's roots in one cut). By AI agents, Wed Nov 11 2026. No macro, syntax, notation, axiom, sorry.
-/
import Derived.Test.YtikbkcidalippaaChecked
import GoSem.Claim
import GoSem.ClaimJoined
import GoSem.ClaimMapViews
import Derived.JoinedTies
import Derived.KernelRfl
namespace Go.Proofs.Ytikbkcidalippaa
/- THE CELL 'sum', in the pinned program and in every row, IS THE sha256 OF THE DUMP (.gsa) THAT YtikbkcidalippaaProg.lean LOADS. Nothing in Lean hashes anything: it is a label: what it is worth is what the hold of that sum in a sandbox is worth. -/
noncomputable def Try.pinned : Pinned := { name := "ytikbkcidalippaa", sum := "ea319c08ee61a582569d11885b3f350128287f11ceffd57bbd180fd43d33eb87", checked := Try.checked }
namespace Rows
def none {H : Type} : Left H := { results := [], args := [] }

/-- 'pharoslaw22.JustWeighs': WHATEVER THE INPUT: true; the input reads as it did. -/
def justWeighsSpec : ChangeSpec := { name := "justWeighs", fn := fun _ => fun
  | [d1, d2, d3, d4] => { results := [.lit (.bool true)], args := [d1, d2, d3, d4] }
  | _ => none }
def justWeighsRow : OpenClaim := { program := "ytikbkcidalippaa", sum := "ea319c08ee61a582569d11885b3f350128287f11ceffd57bbd180fd43d33eb87", func := "pharos/pharoslaw22.JustWeighs", spec := "justWeighs", inPlace := ["math/bits.Sub64"], apart := false }
def JustWeighsSaid : Prop := justWeighsRow.holds Try.pinned (OpenSpec.ofChange justWeighsSpec)

/-- ITS FALSE NEIGHBOUR: 'it returns false'. Refute it at one input. -/
def justWeighsWrong : ChangeSpec := { name := "justWeighs", fn := fun _ => fun
  | [d1, d2, d3, d4] => { results := [.lit (.bool false)], args := [d1, d2, d3, d4] }
  | _ => none }
def JustWeighsWrongFalsely : Prop := justWeighsRow.holds Try.pinned (OpenSpec.ofChange justWeighsWrong)

/-- 'pharoslaw22.JustJustifies': WHATEVER THE INPUT: true; the input reads as it did. -/
def justJustifiesSpec : ChangeSpec := { name := "justJustifies", fn := fun _ => fun
  | [d] => { results := [.lit (.bool true)], args := [d] }
  | _ => none }
def justJustifiesRow : OpenClaim := { program := "ytikbkcidalippaa", sum := "ea319c08ee61a582569d11885b3f350128287f11ceffd57bbd180fd43d33eb87", func := "pharos/pharoslaw22.JustJustifies", spec := "justJustifies", inPlace := ["math/bits.Sub64"], apart := false }
def JustJustifiesSaid : Prop := justJustifiesRow.holds Try.pinned (OpenSpec.ofChange justJustifiesSpec)

/-- ITS FALSE NEIGHBOUR: 'it returns false'. Refute it at one input. -/
def justJustifiesWrong : ChangeSpec := { name := "justJustifies", fn := fun _ => fun
  | [d] => { results := [.lit (.bool false)], args := [d] }
  | _ => none }
def JustJustifiesWrongFalsely : Prop := justJustifiesRow.holds Try.pinned (OpenSpec.ofChange justJustifiesWrong)

/-- 'pharoslaw22.JustSafe': WHATEVER THE INPUT: true; the input reads as it did. -/
def justSafeSpec : ChangeSpec := { name := "justSafe", fn := fun _ => fun
  | [d] => { results := [.lit (.bool true)], args := [d] }
  | _ => none }
def justSafeRow : OpenClaim := { program := "ytikbkcidalippaa", sum := "ea319c08ee61a582569d11885b3f350128287f11ceffd57bbd180fd43d33eb87", func := "pharos/pharoslaw22.JustSafe", spec := "justSafe", inPlace := ["math/bits.Sub64"], apart := false }
def JustSafeSaid : Prop := justSafeRow.holds Try.pinned (OpenSpec.ofChange justSafeSpec)

/-- ITS FALSE NEIGHBOUR: 'it returns false'. Refute it at one input. -/
def justSafeWrong : ChangeSpec := { name := "justSafe", fn := fun _ => fun
  | [d] => { results := [.lit (.bool false)], args := [d] }
  | _ => none }
def JustSafeWrongFalsely : Prop := justSafeRow.holds Try.pinned (OpenSpec.ofChange justSafeWrong)

/-- 'pharoslaw22.JustFlags': WHATEVER THE INPUT: true; the input reads as it did. -/
def justFlagsSpec : ChangeSpec := { name := "justFlags", fn := fun _ => fun
  | [d1, d2, d3] => { results := [.lit (.bool true)], args := [d1, d2, d3] }
  | _ => none }
def justFlagsRow : OpenClaim := { program := "ytikbkcidalippaa", sum := "ea319c08ee61a582569d11885b3f350128287f11ceffd57bbd180fd43d33eb87", func := "pharos/pharoslaw22.JustFlags", spec := "justFlags", inPlace := ["math/bits.Sub64"], apart := false }
def JustFlagsSaid : Prop := justFlagsRow.holds Try.pinned (OpenSpec.ofChange justFlagsSpec)

/-- ITS FALSE NEIGHBOUR: 'it returns false'. Refute it at one input. -/
def justFlagsWrong : ChangeSpec := { name := "justFlags", fn := fun _ => fun
  | [d1, d2, d3] => { results := [.lit (.bool false)], args := [d1, d2, d3] }
  | _ => none }
def JustFlagsWrongFalsely : Prop := justFlagsRow.holds Try.pinned (OpenSpec.ofChange justFlagsWrong)

/-- 'pharoslaw22.JustOrders': WHATEVER THE INPUT: true; the input reads as it did. -/
def justOrdersSpec : ChangeSpec := { name := "justOrders", fn := fun _ => fun
  | [d] => { results := [.lit (.bool true)], args := [d] }
  | _ => none }
def justOrdersRow : OpenClaim := { program := "ytikbkcidalippaa", sum := "ea319c08ee61a582569d11885b3f350128287f11ceffd57bbd180fd43d33eb87", func := "pharos/pharoslaw22.JustOrders", spec := "justOrders", inPlace := ["math/bits.Sub64"], apart := false }
def JustOrdersSaid : Prop := justOrdersRow.holds Try.pinned (OpenSpec.ofChange justOrdersSpec)

/-- ITS FALSE NEIGHBOUR: 'it returns false'. Refute it at one input. -/
def justOrdersWrong : ChangeSpec := { name := "justOrders", fn := fun _ => fun
  | [d] => { results := [.lit (.bool false)], args := [d] }
  | _ => none }
def JustOrdersWrongFalsely : Prop := justOrdersRow.holds Try.pinned (OpenSpec.ofChange justOrdersWrong)

/- THE SECOND FORM. 'bulk': how many values and letters a reading holds, each counted each time it is reached (what is shared counts as often as it is met; a slice's spare places count too). A statement '..UptoSaid' is the law's where the arguments, and the package variables that the reading takes, are together of bulk at most 1048576: NARROWER than '..Said'. Prove '..Said' where nothing that the law and all that it calls make is longer than what came in: it says more and counts as full. Else prove '..UptoSaid'. A law counts once. -/
mutual
def uptoBulk {H : Type} : DataW H → Nat
  | .lit (.string bytes) => bytes.length + 1
  | .lit _ => 1
  | .nil => 1
  | .ptr d => uptoBulk d + 1
  | .slice elems spare => uptoBulkAll elems + uptoBulkAll spare + 1
  | .agg parts => uptoBulkAll parts + 1
  | .iface _ d => uptoBulk d + 1
  | .map entries => uptoBulkEntries entries + 1
  | .held _ => 1
def uptoBulkAll {H : Type} : List (DataW H) → Nat
  | [] => 0
  | d :: r => uptoBulk d + uptoBulkAll r
def uptoBulkEntries {H : Type} : List (Lit × DataW H) → Nat
  | [] => 0
  | x :: r => uptoBulkEntry x + uptoBulkEntries r
def uptoBulkEntry {H : Type} : Lit × DataW H → Nat
  | (.string bytes, d) => bytes.length + uptoBulk d + 1
  | (_, d) => uptoBulk d + 1
 end
def uptoSmall : (H : Type) → List (DataW H) → Bool := fun _ ds => decide (uptoBulkAll ds ≤ 1048576)
def OpenSpec.upto (s : _root_.Go.ChangeSpec) : _root_.Go.OpenSpec := { _root_.Go.OpenSpec.ofChange s with cond := some uptoSmall }

/-- 'pharoslaw22.JustWeighs', WHERE WHAT IT READS IS OF BULK AT MOST 1048576: true; the input reads as it did. -/
def justWeighsUptoRow : OpenClaim := { program := "ytikbkcidalippaa", sum := "ea319c08ee61a582569d11885b3f350128287f11ceffd57bbd180fd43d33eb87", func := "pharos/pharoslaw22.JustWeighs", spec := "justWeighs", inPlace := ["math/bits.Sub64"], apart := false, narrowed := true }
def JustWeighsUptoSaid : Prop := justWeighsUptoRow.holds Try.pinned (OpenSpec.upto justWeighsSpec)

/-- 'pharoslaw22.JustJustifies', WHERE WHAT IT READS IS OF BULK AT MOST 1048576: true; the input reads as it did. -/
def justJustifiesUptoRow : OpenClaim := { program := "ytikbkcidalippaa", sum := "ea319c08ee61a582569d11885b3f350128287f11ceffd57bbd180fd43d33eb87", func := "pharos/pharoslaw22.JustJustifies", spec := "justJustifies", inPlace := ["math/bits.Sub64"], apart := false, narrowed := true }
def JustJustifiesUptoSaid : Prop := justJustifiesUptoRow.holds Try.pinned (OpenSpec.upto justJustifiesSpec)

/-- 'pharoslaw22.JustSafe', WHERE WHAT IT READS IS OF BULK AT MOST 1048576: true; the input reads as it did. -/
def justSafeUptoRow : OpenClaim := { program := "ytikbkcidalippaa", sum := "ea319c08ee61a582569d11885b3f350128287f11ceffd57bbd180fd43d33eb87", func := "pharos/pharoslaw22.JustSafe", spec := "justSafe", inPlace := ["math/bits.Sub64"], apart := false, narrowed := true }
def JustSafeUptoSaid : Prop := justSafeUptoRow.holds Try.pinned (OpenSpec.upto justSafeSpec)

/-- 'pharoslaw22.JustFlags', WHERE WHAT IT READS IS OF BULK AT MOST 1048576: true; the input reads as it did. -/
def justFlagsUptoRow : OpenClaim := { program := "ytikbkcidalippaa", sum := "ea319c08ee61a582569d11885b3f350128287f11ceffd57bbd180fd43d33eb87", func := "pharos/pharoslaw22.JustFlags", spec := "justFlags", inPlace := ["math/bits.Sub64"], apart := false, narrowed := true }
def JustFlagsUptoSaid : Prop := justFlagsUptoRow.holds Try.pinned (OpenSpec.upto justFlagsSpec)

/-- 'pharoslaw22.JustOrders', WHERE WHAT IT READS IS OF BULK AT MOST 1048576: true; the input reads as it did. -/
def justOrdersUptoRow : OpenClaim := { program := "ytikbkcidalippaa", sum := "ea319c08ee61a582569d11885b3f350128287f11ceffd57bbd180fd43d33eb87", func := "pharos/pharoslaw22.JustOrders", spec := "justOrders", inPlace := ["math/bits.Sub64"], apart := false, narrowed := true }
def JustOrdersUptoSaid : Prop := justOrdersUptoRow.holds Try.pinned (OpenSpec.upto justOrdersSpec)

end Rows
end Go.Proofs.Ytikbkcidalippaa
