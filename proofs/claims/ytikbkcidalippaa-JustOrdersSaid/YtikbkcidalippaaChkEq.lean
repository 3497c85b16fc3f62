/-
  Two checkpoints held against each other; loads out of the middle of a block by an operation that is guarded.
-/
import Derived.Test.YtikbkcidalippaaWeighs
import Derived.Test.YtikbkcidalippaaReg
import Derived.DeepKeys
import Derived.Laws.StructEq
namespace Go.Proofs.Ytikbkcidalippaa
open Go.RowKit
set_option maxRecDepth 100000

section
variable {P : Program} {ops : Array Oper} {rest : List Oper} {a : Act} {w : World} {Q : Exit → Act → World → Prop} {K : Act → World → Prop} {dst : Option Tmp} {tt : TypeId} {pos : String} {af : Array Edge} {gd : Option (Nat × Bool)}
/-- x != y of two structs whose cells are variables. -/
theorem o_neq (t : TypeId) {x y : Operand} {t2 : TypeId} {xs ys : Array Value} (hx : a.eval x = .agg xs) (hy : a.eval y = .agg ys) (hm : P.eqGuardType P.depth t = false) {r : Bool}
    (hr : (Op.equalIn 10000 t (.agg xs) (.agg ys)).run P w = .ok r w) (h : K (a.put dst (.bool (!r))) w) : Oper.wp P ⟨dst, .binOp .neq t x y t2, tt, pos, af, gd⟩ a w K Q := by
  unfold Oper.wp execOp
  simp only [hx, hy, Sem.run_bind, run_eqGuard_agg (P := P) w .neq t x y xs ys hm, Result.andThen_ok, run_neq_struct, hr, Sem.run_pure]
  exact h
theorem l_neq (t : TypeId) {x y : Operand} {t2 : TypeId} {xs ys : Array Value} (hx : a.eval x = .agg xs) (hy : a.eval y = .agg ys) (hm : P.eqGuardType P.depth t = false) {r : Bool}
    (hr : (Op.equalIn 10000 t (.agg xs) (.agg ys)).run P w = .ok r w) (h : wpList P ops Q rest (a.put dst (.bool (!r))) w) : wpList P ops Q (⟨dst, .binOp .neq t x y t2, tt, pos, af, none⟩ :: rest) a w :=
  wpList_plain rfl fun K hK => o_neq t hx hy hm hr (hK _ _ h)
/-- The load of a piece of a block, of an operation that is guarded. -/
theorem o_load (ty : TypeId) {x : Operand} {g off : Nat} (hx : a.eval x = .pointer (some ⟨g, off, none⟩)) {t : TypeId} {cs : Array Value} (hb : Blk w g t cs) {d : TypeDesc} (hu : P.underlying ty = some d) (hd : d.isRow = true)
    {n : Nat} (hi : (P.info? ty).map (·.size) = some n) (hn : off + n ≤ cs.size) (h : K (a.put dst (.agg (cs.extract off (off + n)))) w) : Oper.wp P ⟨dst, .load ty x, tt, pos, af, gd⟩ a w K Q :=
  wp_load_mid ty x rfl g off hx (cs.extract off (off + n)).toList d (hb.range off n) hu hd (by rw [hi]; simp; omega) (by rw [Array.toArray_toList]; exact h)
end

theorem mapM_some {α β : Type} {f : α → Option β} : ∀ l : List α, (∀ i ∈ l, ∃ b, f i = some b) → ∃ bs, l.mapM f = some bs
  | [], _ => ⟨[], rfl⟩
  | i :: r, h => by
    obtain ⟨b, hb⟩ := h i List.mem_cons_self
    obtain ⟨bs, hbs⟩ := mapM_some r fun j hj => h j (List.mem_cons_of_mem _ hj)
    exact ⟨b :: bs, by rw [List.mapM_cons, hb, hbs]; rfl⟩
theorem lits_u8 {v : Value} (h : CK.u8.ok v) (d : Nat) : ∃ l, Try.prog.keyLits (d + 1) 5 [v] = some l := by
  obtain ⟨n, rfl, h0, h1⟩ := CK.ok_u8 h
  unfold Program.keyLits
  rw [Try.underlying5]
  exact ⟨_, if_pos ⟨rfl, by simp [Lit.wf, IntKind.min, IntKind.max, IntKind.signed, IntKind.bits]; omega⟩⟩
theorem lits_u64 {v : Value} (h : CK.u64.ok v) (d : Nat) : ∃ l, Try.prog.keyLits (d + 1) 22 [v] = some l := by
  obtain ⟨n, rfl, h0, h1⟩ := CK.ok_u64 h
  unfold Program.keyLits
  rw [Try.underlying22]
  exact ⟨_, if_pos ⟨rfl, by simp [Lit.wf, IntKind.min, IntKind.max, IntKind.signed, IntKind.bits]; omega⟩⟩
theorem lits_root {r : List Value} (hl : r.length = 32) (hk : ∀ (i : Nat) v, r[i]? = some v → CK.u8.ok v) (d : Nat) : ∃ l, Try.prog.keyLits (d + 2) 24 r = some l := by
  have hcs : Try.prog.cellsOf 24 = 32 := by kernel_rfl
  have hc1 : Try.prog.cellsOf 5 = 1 := by kernel_rfl
  obtain ⟨bs, hb⟩ := mapM_some (f := fun i => Try.prog.keyLits (d + 1) 5 ((r.drop (i * 1)).take 1)) (List.range 32) (fun i hi => by
    have hi2 : i < r.length := by rw [hl]; exact List.mem_range.1 hi
    have e : (r.drop (i * 1)).take 1 = [r[i]] := by
      rw [Nat.mul_one, List.drop_eq_getElem_cons hi2]; rfl
    show ∃ b, Try.prog.keyLits (d + 1) 5 ((r.drop (i * 1)).take 1) = some b
    rw [e]
    exact lits_u8 (hk i _ (List.getElem?_eq_getElem hi2)) d)
  refine ⟨bs.flatten, ?_⟩
  unfold Program.keyLits
  rw [Try.underlying24]
  simp only [hcs, hl, hc1, if_true, hb, Option.map_some]
/-- A checkpoint's cells. -/
structure ChkK (xs : Array Value) : Prop where
  size : xs.size = 33
  ep : ∀ v, xs[0]? = some v → CK.u64.ok v
  root : ∀ i v, 1 ≤ i → xs[i]? = some v → CK.u8.ok v
theorem lits_chk {xs : Array Value} (h : ChkK xs) : ∃ l, Try.prog.keyLits 3 42 xs.toList = some l := by
  have hcs : Try.prog.cellsOf 42 = 33 := by kernel_rfl
  have hc1 : Try.prog.cellsOf 22 = 1 := by kernel_rfl
  have hc2 : Try.prog.cellsOf 24 = 32 := by kernel_rfl
  have hs := h.size
  have hl : xs.toList.length = 33 := by simpa using hs
  have e0 : (xs.toList.drop 0).take 1 = [xs[0]'(by omega)] := by
    rw [List.drop_eq_getElem_cons (by omega)]
    simp
  obtain ⟨l0, h0⟩ := lits_u64 (h.ep _ (Array.getElem?_eq_getElem (by omega))) 1
  obtain ⟨l1, h1⟩ := lits_root (r := (xs.toList.drop 1).take 32) (by simp; omega) (fun i v hv => by
    rw [List.getElem?_take] at hv
    split at hv
    · rw [List.getElem?_drop, Array.getElem?_toList] at hv
      exact h.root _ _ (by omega) hv
    · cases hv) 0
  rw [← e0, List.drop_zero] at h0
  rw [List.drop_one] at h1
  refine ⟨[l0, l1].flatten, ?_⟩
  unfold Program.keyLits
  rw [Try.underlying42]
  simp [hcs, hl, hc1, hc2, h0, h1]
/-- Two checkpoints are compared; where they are one, so it says. -/
theorem chk_eq {xs ys : Array Value} (hx : ChkK xs) (hy : ChkK ys) : ∃ r : Bool, (∀ w, (Op.equalIn 10000 42 (.agg xs) (.agg ys)).run Try.prog w = .ok r w) ∧ (xs = ys → r = true) := by
  obtain ⟨la, ha⟩ := lits_chk hx
  obtain ⟨lb, hb⟩ := lits_chk hy
  have fx : ∀ zs : Array Value, ChkK zs → (Value.agg zs).formed Try.prog 42 = true := fun zs hz => by
    have hcs : Try.prog.cellsOf 42 = 33 := by kernel_rfl
    unfold Value.formed
    rw [Try.underlying42]
    show (zs.size == Try.prog.cellsOf 42) = true
    rw [hcs, hz.size]; rfl
  classical
  have hd := run_equalIn_deep (P := Try.prog) 9997 3 42 (by kernel_rfl)
  refine ⟨decide (la = lb), fun w => ?_, fun e => ?_⟩
  · obtain ⟨r, h1, h2⟩ := hd w 3 3 (.agg xs) (.agg ys) la lb (fx xs hx) (fx ys hy) ha hb
    have : r = decide (la = lb) := by
      rw [Bool.eq_iff_iff, h2]; simp
    rw [← this]
    exact h1
  · subst e
    rw [ha] at hb
    simpa using Option.some.inj hb
theorem chkK_of {cs : Array Value} (h : WfC cs) {o : Nat} (ho : o = 993 ∨ o = 1026 ∨ o = 1059) : ChkK (cs.extract o (o + 33)) := by
  have hs := h.size
  refine ⟨by simp; omega, fun v hv => ?_, fun i v hi hv => ?_⟩
  · have t := h.kind _ _ (get_ext hv).1
    rw [ck_chk ho (by omega), if_pos rfl] at t
    exact t
  · have hg := get_ext hv
    have t := h.kind _ _ hg.1
    rw [ck_chk ho (by omega), if_neg (by omega)] at t
    exact t
theorem eqg_chk : Try.prog.eqGuardType Try.prog.depth 42 = false := by kernel_rfl
end Go.Proofs.Ytikbkcidalippaa
