/-
  Steps of a region that draws its order: loads of whole blocks may be taken first; calls, allocations and stores of values whose cells may not be laid open. No program in sight.
-/
import Derived.Test.YtikbkcidalippaaLaws
import Derived.Deep.RegionHeld3
import Derived.Deep.RegionLaw
namespace Go.Proofs.Ytikbkcidalippaa
open Go.RowKit

section
variable {P : Program} {ops : Array Oper} {S : World → Prop} {a : Act} {w : World} {o : Oper}
/-- A load of a whole array or struct that stands in a block in every world that meets S. -/
theorem y_load (ty : TypeId) {x : Operand} (hg : Region.wanted o (yielded ops a.tmps) = true) (ho : o.op = .load ty x) {g off : Nat} (hx : a.eval x = .pointer (some ⟨g, off, none⟩)) {t : TypeId} {cs : Array Value}
    (hS : ∀ w, S w → Blk w g t cs) {d : TypeDesc} (hu : P.underlying ty = some d) (hd : d.isRow = true) {n : Nat} (hi : (P.info? ty).map (·.size) = some n) (hn : off + n ≤ cs.size) :
    YieldsIf P ops S o (.agg (cs.extract off (off + n))) a := by
  have := yieldsIf_load_mid (P := P) (ops := ops) (S := S) (op := o) (a := a) hg ty x ho g off hx (cs.extract off (off + n)).toList d (fun w hw => (hS w hw).range off n) hu hd (by rw [hi]; simp; omega)
  rwa [Array.toArray_toList] at this
theorem y_loadw (ty : TypeId) {x : Operand} (hg : Region.wanted o (yielded ops a.tmps) = true) (ho : o.op = .load ty x) {g : Nat} (hx : a.eval x = .pointer (some ⟨g, 0, none⟩)) {t : TypeId} {cs : Array Value}
    (hS : ∀ w, S w → Blk w g t cs) {d : TypeDesc} (hu : P.underlying ty = some d) (hd : d.isRow = true) {n : Nat} (hi : (P.info? ty).map (·.size) = some n) (hn : cs.size = n) :
    YieldsIf P ops S o (.agg cs) a := by
  have := y_load ty hg ho hx hS hu hd hi (by omega)
  rwa [Nat.zero_add, ← hn, Array.extract_size] at this

/-- Number i first; where it writes is said. -/
theorem takeD {Q : Exit → Act → World → Prop} {md : Region.Mode} (i : Nat) (d : Option Tmp) {oi : Oper} {v : Value} {fuel : Nat} {listed : Array Bool} (hi : ops[i]? = some oi) (hd : oi.dst = d)
    (hs : Region.noSelect ops = true) (hf : Region.free md ops listed i = true) (hr : (Region.ready md ops listed).contains i = true)
    (hQ : ∀ c a w, Q (.panic c) (a.put d v) w → Q (.panic c) a w) (hS : S w) (hy : YieldsIf P ops S oi v a)
    (h : wpAnyH P md ops Q S fuel (listed.setIfInBounds i true) (a.put d v) w) : wpAnyH P md ops Q S (fuel + 1) listed a w := by
  subst hd
  exact wpAnyH_take hi hs hf hr hQ hy hS h

variable {K : Act → World → Prop} {Q : Exit → Act → World → Prop} {E : Prop} (d : Option Tmp)
theorem s_alloc (ty : TypeId) (hg : Region.wanted o (yielded ops a.tmps) = true) (hd : o.dst = d) (ho : o.op = .alloc ty) (hz : ((P.info? ty).bind (·.zero)).isSome = true)
    (h : K (a.put d (.pointer (some ⟨w.heap.size, 0, none⟩))) (w.alloc (.cells (zc P ty) ty))) : if Region.wanted o (yielded ops a.tmps) = true then Oper.wp P o a w K Q else E := by
  subst hd
  rw [if_pos hg]
  unfold Oper.wp execOp
  simp only [ho, Instr.alloc, newVar, newRow, Sem.run_bind, run_zeroValue hz, Result.andThen_ok]
  exact h
theorem s_store (ty : TypeId) {x y : Operand} (hg : Region.wanted o (yielded ops a.tmps) = true) (hd : o.dst = d) (ho : o.op = .store ty x y) {g off : Nat} (hx : a.eval x = .pointer (some ⟨g, off, none⟩)) {vs : Array Value} (hy : a.eval y = .agg vs)
    {t : TypeId} {cs : Array Value} (hb : Blk w g t cs) {n : Nat} (hi : (P.info? ty).map (·.size) = some n) (hvs : vs.size = n) (hn : off + n ≤ cs.size) (h1 : vs.all (·.oneCell') = true)
    (h : K (a.put d undef) (w.setRow g (patch cs off vs))) : if Region.wanted o (yielded ops a.tmps) = true then Oper.wp P o a w K Q else E := by
  subst hvs; subst hd
  rw [if_pos hg]
  refine wp_store_mid ty x y ho g off vs hx hy (fun j hj => ⟨by rw [hb.cell, Array.getElem?_eq_getElem (by omega)]; rfl, hb.frozen _⟩) hi h1 ?_
  rw [setCells_patch g t vs.toList off w cs hb (by simpa using hn)]
  simpa using h
theorem s_storew (ty : TypeId) {x y : Operand} (hg : Region.wanted o (yielded ops a.tmps) = true) (hd : o.dst = d) (ho : o.op = .store ty x y) {g : Nat} (hx : a.eval x = .pointer (some ⟨g, 0, none⟩)) {vs : Array Value} (hy : a.eval y = .agg vs)
    {t : TypeId} {cs : Array Value} (hb : Blk w g t cs) {n : Nat} (hi : (P.info? ty).map (·.size) = some n) (hvs : vs.size = n) (hn : cs.size = n) (h1 : vs.all (·.oneCell') = true)
    (h : K (a.put d undef) (w.setRow g vs)) : if Region.wanted o (yielded ops a.tmps) = true then Oper.wp P o a w K Q else E :=
  s_store d ty hg hd ho hx hy hb hi hvs (by omega) h1 (by rw [patch_all (by omega)]; exact h)
/-- A call by its contract. -/
theorem s_call (f : FuncId) {l : List Operand} {ats : Array TypeId} {fn : Func} {c : Code} (hg : Region.wanted o (yielded ops a.tmps) = true) (hd : o.dst = d) (ho : o.op = .call { callee := .value (.func f), args := l.toArray, argTypes := ats })
    (hf : P.funcs[f]? = some fn) (hname : (fn.name == "runtime.NumGoroutine") = false) (hb : fn.body = some c) {vs : List Value} (ha : l.map a.eval = vs) {R : Ending → World → Prop} (hc : Calls P f vs.toArray w R)
    (h : ∀ e w', R e w' → ∃ v, e = .returned v ∧ K (a.put d v) w') : if Region.wanted o (yielded ops a.tmps) = true then Oper.wp P o a w K Q else E := by
  subst hd
  rw [if_pos hg]
  have hrun : (execOp a.eval o).run P w = .ok (.enter f vs.toArray) w := by
    obtain ⟨dst, op, ty, pos, af, gd⟩ := o
    simp only at ho
    subst ho
    rw [execOp_call_go, List.map_toArray, ha]
    have h1 : fn.name ≠ "runtime.NumGoroutine" := by simpa using hname
    simp [callFunc, hf, h1, hb]
  unfold Oper.wp
  rw [hrun, Oper.upon_enter]
  refine hc.mono fun e w' he => ?_
  obtain ⟨v, rfl, hk⟩ := h e w' he
  exact hk
end

section
variable {P : Program} {a : Act} {w : World} {K : Act → World → Prop} {Q : Exit → Act → World → Prop} {dst : Option Tmp} {tt : TypeId} {pos : String} {af : Array Edge} {gd : Option (Nat × Bool)}
/-- The load of a whole block, of an operation that is guarded. -/
theorem o_loadw (ty : TypeId) {x : Operand} {g : Nat} (hx : a.eval x = .pointer (some ⟨g, 0, none⟩)) {t : TypeId} {cs : Array Value} (hb : Blk w g t cs) {d : TypeDesc} (hu : P.underlying ty = some d) (hd : d.isRow = true)
    {n : Nat} (hi : (P.info? ty).map (·.size) = some n) (hn : cs.size = n) (h : K (a.put dst (.agg cs)) w) : Oper.wp P ⟨dst, .load ty x, tt, pos, af, gd⟩ a w K Q := by
  refine wp_load_mid ty x rfl g 0 hx cs.toList d ?_ hu hd (by rw [hi]; simp [hn]) (by rw [Array.toArray_toList]; exact h)
  have := hb.range 0 cs.size
  rwa [Nat.zero_add, Array.extract_size] at this
end

end Go.Proofs.Ytikbkcidalippaa
