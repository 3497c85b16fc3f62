/-
  Laws for walks over blocks whose cells are a variable array: no program in sight. Each says what one operation of a plain region does to a block that is known whole.
-/
import Derived.WalkKit
import Derived.WalkSpells
import Derived.WalkLawsBesides
import Derived.Below
import Derived.Deep.MidRow
import Derived.Deep.Draws
import Derived.Lib.Hide
import Derived.Laws.CopyOwn
import Derived.Maps.RangeWalk
namespace Go.Proofs.Ytikbkcidalippaa
open Go.RowKit

/-- Block g is just the cells cs of element type t, none frozen. -/
def Blk (w : World) (g : Nat) (t : TypeId) (cs : Array Value) : Prop := w.heap[g]? = some (.cells cs t (0, 0))

section
variable {w w' : World} {g : Nat} {t : TypeId} {cs : Array Value}
theorem Blk.lt (h : Blk w g t cs) : g < w.heap.size := by
  unfold Blk at h
  rcases Nat.lt_or_ge g w.heap.size with hl | hl
  · exact hl
  · rw [Array.getElem?_eq_none hl] at h; cases h
theorem Blk.cell (h : Blk w g t cs) (i : Nat) : w.cell? ⟨g, i, none⟩ = cs[i]? := cell_of_row w g i cs t (0, 0) h
theorem Blk.frozen (h : Blk w g t cs) (i : Nat) : w.frozen? ⟨g, i, none⟩ = false := frozen_of_row w g i cs t h
theorem Blk.new (w : World) (t : TypeId) (cs : Array Value) : Blk (w.alloc (.cells cs t)) w.heap.size t cs := heap_alloc_new w _
theorem Blk.newAt (h : g = w.heap.size) : Blk (w.alloc (.cells cs t)) g t cs := by subst h; exact Blk.new _ _ _
theorem Blk.drewN (h : Blk w g t cs) (n : Nat) : Blk (w.drewN n) g t cs := h
theorem Blk.drew (h : Blk w g t cs) : Blk w.drew g t cs := h
theorem Blk.alloc (h : Blk w g t cs) (o : Obj) : Blk (w.alloc o) g t cs := (Below.heap_alloc w o g h.lt).trans h
theorem Blk.setRow (h : Blk w g t cs) (cs' : Array Value) : Blk (w.setRow g cs') g t cs' := setRow_heap w g cs cs' t (0, 0) h
theorem Blk.setRow_other (h : Blk w g t cs) {k : Nat} (hk : g ≠ k) (cs' : Array Value) : Blk (w.setRow k cs') g t cs := (_root_.Go.setRow_other w k g cs' hk).trans h
theorem Blk.below {B : Nat} (h : Blk w g t cs) (hb : Below B w w') (hg : g < B) : Blk w' g t cs := (hb.block g hg).trans h
theorem Blk.grown {row : Option Nat} (h : Blk w g t cs) (hb : w.grownBy w' row) (hg : some g ≠ row) : Blk w' g t cs := (hb.block g h.lt hg).trans h
theorem Blk.range (h : Blk w g t cs) (o n : Nat) : w.rangeAt g o (cs.extract o (o + n)).toList := World.rangeAt_of_block h o n
end

/-- vs laid into cs from o on. -/
def patch (cs : Array Value) (o : Nat) (vs : Array Value) : Array Value := cs.extract 0 o ++ vs ++ cs.extract (o + vs.size) cs.size

theorem size_patch {cs vs : Array Value} {o : Nat} (h : o + vs.size ≤ cs.size) : (patch cs o vs).size = cs.size := by
  simp [patch]; omega
theorem get_patch_in {cs vs : Array Value} {o i : Nat} (h : o + vs.size ≤ cs.size) (h1 : o ≤ i) (h2 : i < o + vs.size) : (patch cs o vs)[i]? = vs[i - o]? := by
  simp only [patch, Array.getElem?_append, Array.size_append, Array.size_extract]
  rw [if_pos (by omega), if_neg (by omega)]
  congr 1; omega
theorem get_patch_out {cs vs : Array Value} {o i : Nat} (h : o + vs.size ≤ cs.size) (h1 : i < o ∨ o + vs.size ≤ i) : (patch cs o vs)[i]? = cs[i]? := by
  simp only [patch, Array.getElem?_append, Array.size_append, Array.size_extract]
  rcases h1 with h1 | h1
  · rw [if_pos (by omega), if_pos (by omega)]
    simp [Array.getElem?_extract]; omega
  · rw [if_neg (by omega)]
    simp only [Array.getElem?_extract]
    by_cases hi : i < cs.size
    · rw [if_pos (by omega)]; congr 1; omega
    · rw [if_neg (by omega), Array.getElem?_eq_none (by omega)]

theorem patch_set {cs : Array Value} {o : Nat} {v : Value} (h : o < cs.size) : cs.setIfInBounds o v = patch cs o #[v] := by
  apply Array.ext_getElem?
  intro i
  rw [Array.getElem?_setIfInBounds]
  by_cases hi : o = i
  · subst hi
    rw [if_pos rfl, if_pos h, get_patch_in (by simp; omega) (Nat.le_refl _) (by simp)]
    simp
  · rw [if_neg hi, get_patch_out (by simp; omega) (by simp; omega)]

theorem patch_cons {cs : Array Value} {o : Nat} {v : Value} {vs : List Value} (h : o + 1 + vs.length ≤ cs.size) : patch (cs.setIfInBounds o v) (o + 1) vs.toArray = patch cs o (v :: vs).toArray := by
  apply Array.ext_getElem?
  intro i
  have h1 : o + 1 + vs.toArray.size ≤ (cs.setIfInBounds o v).size := by simpa using h
  have h2 : o + (v :: vs).toArray.size ≤ cs.size := by simp; omega
  by_cases hlo : i < o
  · rw [get_patch_out h1 (by omega), get_patch_out h2 (by omega), Array.getElem?_setIfInBounds, if_neg (by omega)]
  · by_cases he : o = i
    · subst he
      rw [get_patch_out h1 (by omega), get_patch_in h2 (by omega) (by simp), Array.getElem?_setIfInBounds, if_pos rfl, if_pos (by omega)]
      simp
    · by_cases hhi : i < o + 1 + vs.length
      · rw [get_patch_in h1 (by omega) (by simpa using hhi), get_patch_in h2 (by omega) (by simp; omega)]
        have e : i - o = (i - (o + 1)) + 1 := by omega
        rw [e]; simp
      · rw [get_patch_out h1 (by simp; omega), get_patch_out h2 (by simp; omega), Array.getElem?_setIfInBounds, if_neg he]

theorem patch_nil {cs : Array Value} {o : Nat} (h : o ≤ cs.size) : patch cs o #[] = cs := by
  apply Array.ext_getElem?
  intro i
  rw [get_patch_out (by simpa using h) (by simp; omega)]

/-- Cells stored one behind the other: the block's row is patched. -/
theorem setCells_patch (g : Nat) (t : TypeId) : ∀ (vs : List Value) (o : Nat) (w : World) (cs : Array Value), Blk w g t cs → o + vs.length ≤ cs.size → w.setCells g o vs = w.setRow g (patch cs o vs.toArray)
  | [], o, w, cs, h, ho => by
    rw [patch_nil (by simpa using ho)]
    show w = _
    unfold Blk at h
    unfold World.setRow
    cases w with
    | mk heap tape drawn os output =>
      congr 1
      apply Array.ext_getElem?
      intro i
      rw [Array.getElem?_modify]
      by_cases hi : g = i
      · subst hi; rw [if_pos rfl]; rw [h]; rfl
      · rw [if_neg hi]
  | v :: vs, o, w, cs, h, ho => by
    have ho' : o + 1 + vs.length ≤ cs.size := by simp at ho; omega
    rw [World.setCells, setCell_eq_setRow w g o cs t (0, 0) v h,
      setCells_patch g t vs (o + 1) _ (cs.setIfInBounds o v) (h.setRow _) (by simpa using ho'), setRow_setRow, patch_cons ho']

section
variable {P : Program} {ops : Array Oper} {rest : List Oper} {a : Act} {w : World} {Q : Exit → Act → World → Prop} {dst : Option Tmp} {tt : TypeId} {pos : String} {af : Array Edge}

/-- A load of a whole array or struct out of a block, wherever it lies in it. -/
theorem l_load (ty : TypeId) {x : Operand} {g off : Nat} (hx : a.eval x = .pointer (some ⟨g, off, none⟩))
    {t : TypeId} {cs : Array Value} (hb : Blk w g t cs) {d : TypeDesc} (hu : P.underlying ty = some d) (hd : d.isRow = true) {n : Nat} (hi : (P.info? ty).map (·.size) = some n) (hn : off + n ≤ cs.size)
    (h : wpList P ops Q rest (a.put dst (.agg (cs.extract off (off + n)))) w) : wpList P ops Q (⟨dst, .load ty x, tt, pos, af, none⟩ :: rest) a w :=
  wpList_load_mid rfl ty x rfl g off hx (cs.extract off (off + n)).toList d (hb.range off n) hu hd (by rw [hi]; simp; omega) (by rw [Array.toArray_toList]; exact h)

/-- Cells that are known one by one. -/
theorem l_loadr (ty : TypeId) {x : Operand} {g off : Nat} (hx : a.eval x = .pointer (some ⟨g, off, none⟩)) {l : List Value} (hr : w.rangeAt g off l)
    {d : TypeDesc} (hu : P.underlying ty = some d) (hd : d.isRow = true) {n : Nat} (hi : (P.info? ty).map (·.size) = some n) (hn : l.length = n)
    (h : wpList P ops Q rest (a.put dst (.agg l.toArray)) w) : wpList P ops Q (⟨dst, .load ty x, tt, pos, af, none⟩ :: rest) a w :=
  wpList_load_mid rfl ty x rfl g off hx l d hr hu hd (by rw [hi, hn]) h

/-- The same, the whole block. -/
theorem l_loadw (ty : TypeId) {x : Operand} {g : Nat} (hx : a.eval x = .pointer (some ⟨g, 0, none⟩))
    {t : TypeId} {cs : Array Value} (hb : Blk w g t cs) {d : TypeDesc} (hu : P.underlying ty = some d) (hd : d.isRow = true) {n : Nat} (hi : (P.info? ty).map (·.size) = some n) (hn : cs.size = n)
    (h : wpList P ops Q rest (a.put dst (.agg cs)) w) : wpList P ops Q (⟨dst, .load ty x, tt, pos, af, none⟩ :: rest) a w :=
  wpList_load_row rfl ty x rfl g hx t cs (0, 0) d hb hu (by cases d <;> first | rfl | cases hd) (by rw [hi, hn]) h

theorem setRow_eq_at {w : World} {n : Nat} {c c' : Array Value} {t : TypeId} (h : n = w.heap.size) : (w.alloc (.cells c t)).setRow n c' = w.alloc (.cells c' t) := by
  subst h
  simp only [World.setRow, World.alloc]
  congr 1
  apply Array.ext_getElem?
  intro i
  rw [Array.getElem?_modify, Array.getElem?_push, Array.getElem?_push]
  by_cases hi : w.heap.size = i
  · subst hi; simp
  · rw [if_neg hi, if_neg (by omega), if_neg (by omega)]
theorem setRow_eq_past {w w' : World} {n : Nat} {c' : Array Value} {o : Obj} (h : n < w.heap.size) (hw : w.setRow n c' = w') : (w.alloc o).setRow n c' = w'.alloc o := by
  subst hw
  simp only [World.setRow, World.alloc]
  congr 1
  apply Array.ext_getElem?
  intro i
  rw [Array.getElem?_modify, Array.getElem?_push, Array.getElem?_push, Array.getElem?_modify, Array.size_modify]
  by_cases hi : n = i
  · subst hi; rw [if_pos rfl, if_neg (by omega), if_neg (by omega), if_pos rfl]
  · rw [if_neg hi, if_neg hi]
theorem setRow_eq_drewN {w w' : World} {n k : Nat} {c' : Array Value} (hw : w.setRow n c' = w') : (w.drewN k).setRow n c' = w'.drewN k := by subst hw; rfl
theorem setRow_eq_drew {w w' : World} {n : Nat} {c' : Array Value} (hw : w.setRow n c' = w') : w.drew.setRow n c' = w'.drew := by subst hw; rfl

/-- A store of a whole array or struct into a block, wherever; the world behind it given a name. -/
theorem l_store (ty : TypeId) {x y : Operand} {g off : Nat} (hx : a.eval x = .pointer (some ⟨g, off, none⟩)) {vs : Array Value} (hy : a.eval y = .agg vs)
    {t : TypeId} {cs : Array Value} (hb : Blk w g t cs) {n : Nat} (hi : (P.info? ty).map (·.size) = some n) (hvs : vs.size = n) (hn : off + n ≤ cs.size) (h1 : vs.all (·.oneCell') = true)
    {w' : World} (hw : w.setRow g (patch cs off vs) = w')
    (h : wpList P ops Q rest (a.put dst undef) w') : wpList P ops Q (⟨dst, .store ty x y, tt, pos, af, none⟩ :: rest) a w := by
  subst hw; subst hvs
  exact wpList_store_mid rfl ty x y rfl g off vs hx hy
    (fun j hj => ⟨by rw [hb.cell, Array.getElem?_eq_getElem (by omega)]; rfl, hb.frozen _⟩) hi h1
    (by rw [setCells_patch g t vs.toList off w cs hb (by simpa using hn)]; simpa using h)

theorem patch_all {cs vs : Array Value} (h : vs.size = cs.size) : patch cs 0 vs = vs := by
  apply Array.ext_getElem?
  intro i
  by_cases hi : i < vs.size
  · rw [get_patch_in (by omega) (by omega) (by omega)]; rfl
  · rw [get_patch_out (by omega) (by omega), Array.getElem?_eq_none (by omega), Array.getElem?_eq_none (by omega)]

/-- The same, the whole block. -/
theorem l_storew (ty : TypeId) {x y : Operand} {g : Nat} (hx : a.eval x = .pointer (some ⟨g, 0, none⟩)) {vs : Array Value} (hy : a.eval y = .agg vs)
    {t : TypeId} {cs : Array Value} (hb : Blk w g t cs) {n : Nat} (hi : (P.info? ty).map (·.size) = some n) (hvs : vs.size = n) (hn : cs.size = n) (h1 : vs.all (·.oneCell') = true)
    {w' : World} (hw : w.setRow g vs = w')
    (h : wpList P ops Q rest (a.put dst undef) w') : wpList P ops Q (⟨dst, .store ty x y, tt, pos, af, none⟩ :: rest) a w :=
  l_store ty hx hy hb hi hvs (by omega) h1 (by rw [patch_all (by omega)]; exact hw) h

/-- An element of an array that is a value. -/
theorem run_isAgg {t : TypeId} {d : TypeDesc} (hu : P.underlying t = some d) (w : World) : (isAgg t).run P w = .ok d.isRow w := by
  unfold isAgg
  rw [Sem.run_bind, run_underlying hu w]
  cases d <;> rfl
theorem run_sizeOf {t : TypeId} {n : Nat} (hi : (P.info? t).map (·.size) = some n) (w : World) : (sizeOf t).run P w = .ok n w := by
  cases hq : P.info? t with
  | none => simp [hq] at hi
  | some i =>
    have hs : i.size = n := by simpa [hq] using hi
    simp [sizeOf, typeInfo, hq, hs]
theorem l_index (ty : TypeId) {x ix : Operand} {A : Array Value} {kk : IntKind} {i : Int} (hx : a.eval x = .agg A) (hix : a.eval ix = .int kk i) {len elem : Nat} (hu : P.underlying ty = some (.array len elem))
    {d : TypeDesc} (hue : P.underlying elem = some d) (hd : d.isRow = true) {n : Nat} (hn : (P.info? elem).map (·.size) = some n) (h0 : 0 ≤ i ∧ i < len)
    (h : wpList P ops Q rest (a.put dst (.agg (A.extract (i.toNat * n) (i.toNat * n + n)))) w) : wpList P ops Q (⟨dst, .index ty x ix, tt, pos, af, none⟩ :: rest) a w := by
  refine wpList_plain rfl fun K hK => ?_
  unfold Oper.wp execOp
  simp only [hx, hix, Instr.index, asIntOf, Sem.run_bind, Sem.run_pure, Result.andThen_ok, run_underlying hu]
  rw [if_pos h0]
  simp only [Sem.run_bind, run_sizeOf hn, Result.andThen_ok, part, run_isAgg hue, hd, if_true, Sem.run_pure]
  exact hK _ _ h
theorem l_index1 (ty : TypeId) {x ix : Operand} {A : Array Value} {kk : IntKind} {i : Int} (hx : a.eval x = .agg A) (hix : a.eval ix = .int kk i) {len elem : Nat} (hu : P.underlying ty = some (.array len elem))
    {d : TypeDesc} (hue : P.underlying elem = some d) (hd : d.isRow = false) (hn : (P.info? elem).map (·.size) = some 1) (h0 : 0 ≤ i ∧ i < len) {v : Value} (hv : A[i.toNat]? = some v)
    (h : wpList P ops Q rest (a.put dst v) w) : wpList P ops Q (⟨dst, .index ty x ix, tt, pos, af, none⟩ :: rest) a w := by
  refine wpList_plain rfl fun K hK => ?_
  unfold Oper.wp execOp
  simp only [hx, hix, Instr.index, asIntOf, Sem.run_bind, Sem.run_pure, Result.andThen_ok, run_underlying hu]
  rw [if_pos h0]
  simp only [Sem.run_bind, run_sizeOf hn, Result.andThen_ok, part, run_isAgg hue, hd, Bool.false_eq_true, if_false, Sem.run_pure, Nat.mul_one, hv]
  exact hK _ _ h

/-- The zero value's cells of a type; they may not be laid open. -/
def zc (P : Program) (t : TypeId) : Array Value := (((P.info? t).bind (·.zero)).getD undef).cells
theorem run_zeroValue {t : TypeId} (hz : ((P.info? t).bind (·.zero)).isSome = true) (w : World) : (zeroValue t).run P w = .ok (((P.info? t).bind (·.zero)).getD undef) w := by
  cases hi : P.info? t with
  | none => simp [hi] at hz
  | some i =>
    cases hzz : i.zero with
    | none => simp [hi, hzz] at hz
    | some z => simp [zeroValue, typeInfo, hi, hzz]

/-- A new variable. -/
theorem l_alloc (ty : TypeId) (hz : ((P.info? ty).bind (·.zero)).isSome = true)
    (h : wpList P ops Q rest (a.put dst (.pointer (some ⟨w.heap.size, 0, none⟩))) (w.alloc (.cells (zc P ty) ty))) : wpList P ops Q (⟨dst, .alloc ty, tt, pos, af, none⟩ :: rest) a w := by
  refine wpList_plain rfl fun K hK => ?_
  unfold Oper.wp execOp
  simp only [Instr.alloc, newVar, newRow, Sem.run_bind, run_zeroValue hz, Result.andThen_ok]
  exact hK _ _ h

/-- The parts of a literal, laid one behind the other. -/
theorem fill_nil (place : Nat → Option (Nat × Nat)) (cells : Array Value) : Instr.fill place cells [] = some cells := rfl
theorem fold_patch (off : Nat) : ∀ (l : List Value) (k : Nat) (cells : Array Value), off + k + l.length ≤ cells.size →
    (l.zipIdx k).foldl (fun cs (x : Value × Nat) => cs.setIfInBounds (off + x.2) x.1) cells = patch cells (off + k) l.toArray
  | [], k, cells, h => by rw [patch_nil (by simpa using h)]; rfl
  | v :: l, k, cells, h => by
    have h' : off + k + 1 + l.length ≤ cells.size := by simp at h; omega
    rw [List.zipIdx_cons, List.foldl_cons, fold_patch off l (k + 1) _ (by simp; omega), ← patch_cons h']
    rfl
theorem fill_cons {place : Nat → Option (Nat × Nat)} {cells : Array Value} {i : Nat} {v : Value} {rest : List (Nat × Value)} {off : Nat} (hp : place i = some (off, v.cells.size)) (h : off + v.cells.size ≤ cells.size) :
    Instr.fill place cells ((i, v) :: rest) = Instr.fill place (patch cells off v.cells) rest := by
  have e := fold_patch off v.cells.toList 0 cells (by simpa using h)
  simp only [Nat.add_zero, Array.toArray_toList] at e
  simp only [Instr.fill, hp]
  rw [if_neg (by simp; omega)]
  congr 1
  rw [← Array.foldl_toList]
  simpa using e
theorem built_struct {t : TypeId} {fields : Array Field} (hz : ((P.info? t).bind (·.zero)).isSome = true) (hu : P.underlying t = some (.struct fields)) {places : List (Nat × Nat)}
    (hp : fields.toList.mapM (fun f => (P.info? f.type).map fun i => (f.offset, i.size)) = some places) (parts : List (Nat × Value)) : P.built t parts = Instr.fill (places.toArray[·]?) (zc P t) parts := by
  unfold Program.built zc
  cases hi : P.info? t with
  | none => simp [hi] at hz
  | some it =>
    cases hzz : it.zero with
    | none => simp [hi, hzz] at hz
    | some z => simp [hu, hzz, hp]
theorem built_array {t : TypeId} {m : Nat} {e : TypeId} {sz : Nat} (hz : ((P.info? t).bind (·.zero)).isSome = true) (hu : P.underlying t = some (.array m e)) (he : (P.info? e).map (·.size) = some sz)
    (parts : List (Nat × Value)) : P.built t parts = Instr.fill (fun i => some (i * sz, sz)) (zc P t) parts := by
  unfold Program.built zc
  cases hi : P.info? t with
  | none => simp [hi] at hz
  | some it =>
    cases hie : P.info? e with
    | none => simp [hie] at he
    | some ie =>
      cases hzz : it.zero with
      | none => simp [hi, hzz] at hz
      | some z =>
        have hs : ie.size = sz := by simpa [hie] using he
        simp [hu, hzz, hie, hs]

/-- A literal of an array or struct. -/
theorem l_build (ty : TypeId) {l : List (Nat × Operand)} {vs : List (Nat × Value)} (hv : l.map (fun p => (p.1, a.eval p.2)) = vs) {cells : Array Value} (hc : P.built ty vs = some cells)
    (h : wpList P ops Q rest (a.put dst (.agg cells)) w) : wpList P ops Q (⟨dst, .build ty l.toArray, tt, pos, af, none⟩ :: rest) a w := by
  subst hv
  have e : (l.toArray.map fun (i, x) => (i, a.eval x)).toList = l.map (fun p => (p.1, a.eval p.2)) := by simp
  refine wpList_build rfl ty l.toArray rfl (by rw [e, hc]; rfl) ?_
  rw [e, hc]
  exact h

/-- A result that lies in a variable: one; with a number beside it. -/
theorem l_ret {fn : Func} {R : Ending → World → Prop} {p : Tmp} {ty : TypeId} (hr : fn.results = #[.cell p ty]) {g : Nat} (hp : a.tmps.getD p undef = .pointer (some ⟨g, 0, none⟩))
    {t : TypeId} {cs : Array Value} (hb : Blk w g t cs) {d : TypeDesc} (hu : P.underlying ty = some d) (hd : d.isRow = true) {n : Nat} (hi : (P.info? ty).map (·.size) = some n) (hn : cs.size = n)
    (hdef : a.defers = []) (h : R (.returned (.agg cs)) w) : bodyPost P fn R .ret a w :=
  bodyPost_ret (results_cell_row hr _ _ g t cs (0, 0) d hp hb hu (by cases d <;> first | rfl | cases hd) (by rw [hi, hn])) hdef h
theorem l_ret2 {fn : Func} {R : Ending → World → Prop} {p u : Tmp} {ty : TypeId} (hr : fn.results = #[.cell p ty, .tmp u]) {g : Nat} (hp : a.tmps.getD p undef = .pointer (some ⟨g, 0, none⟩))
    {v : Value} (hv : a.tmps.getD u undef = v)
    {t : TypeId} {cs : Array Value} (hb : Blk w g t cs) {d : TypeDesc} (hu : P.underlying ty = some d) (hd : d.isRow = true) {n : Nat} (hi : (P.info? ty).map (·.size) = some n) (hn : cs.size = n)
    (hdef : a.defers = []) (h : R (.returned (.tuple #[.agg cs, v])) w) : bodyPost P fn R .ret a w := by
  refine bodyPost_ret (v := .tuple #[.agg cs, v]) ?_ hdef h
  rw [results_cell_tmp hr, hp, hv]
  simp only [asAddr, Sem.run_pure, Result.andThen_ok, run_loadVar_row w g t ty cs (0, 0) d hb hu (by cases d <;> first | rfl | cases hd) (by rw [hi, hn])]
end

end Go.Proofs.Ytikbkcidalippaa
