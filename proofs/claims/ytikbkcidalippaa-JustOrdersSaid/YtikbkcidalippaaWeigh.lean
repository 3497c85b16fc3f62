/-
  just.Weigh: the cells behind it are weighC's.
-/
import Derived.Test.YtikbkcidalippaaJust
import Derived.Test.YtikbkcidalippaaClone
import Derived.Deep.RegionLaw
import Derived.Laws.IdiomCopy
namespace Go.Proofs.Ytikbkcidalippaa
open Go.RowKit
attribute [local irreducible] Hid Blk
set_option maxRecDepth 100000

theorem setCells_list (g o : Nat) (t : TypeId) (vs : Array Value) (w : World) (cs : Array Value) (h : Blk w g t cs) (ho : o + vs.size ≤ cs.size) : w.setCells g o vs.toList = w.setRow g (patch cs o vs) := by
  simpa using setCells_patch g t vs.toList o w cs h (by simpa using ho)
/-- copy within one block. -/
theorem step_copy_blk {P : Program} {ops : Array Oper} {o : Oper} {a : Act} {w : World} {K : Act → World → Prop} {Q : Exit → Act → World → Prop} {E : Prop} (hgd : o.guard = none) (d s : Operand) (dT sT : TypeId)
    (ho : o.op = .call { callee := .builtin .copy, args := #[d, s], argTypes := #[dT, sT] }) (elem : TypeId) (hu : P.underlying dT = some (.slice elem)) (hsz : (P.info? elem).map (·.size) = some 1)
    {g od os dLen dCap sLen sCap : Nat} (hd : a.eval d = .slice (some ⟨g, od, none⟩) dLen dCap) (hs : a.eval s = .slice (some ⟨g, os, none⟩) sLen sCap)
    {cs : Array Value} {t : TypeId} (hb : Blk w g t cs) (n : Nat) (hn : n = Nat.min sLen dLen) (h1 : od + n ≤ cs.size) (h2 : os + n ≤ cs.size) (hone : cs.all (·.oneCell') = true)
    (h : ∀ w', Hid (w' = w.setRow g (patch cs od (cs.extract os (os + n)))) → K (a.put o.dst (goInt n)) w') :
    if Region.wanted o (yielded ops a.tmps) = true then Oper.wp P o a w K Q else E := by
  have hw : Region.wanted o (yielded ops a.tmps) = true := by simp [Region.wanted, hgd]
  rw [if_pos hw]
  have hl : (cs.extract os (os + n)).toList.length = n := by simp; omega
  have hrun := run_copy_cells (P := P) w dT sT o.type elem g od dLen dCap ⟨g, os, none⟩ sLen sCap (cs.extract os (os + n)).toList hu hsz (by rw [hl]; exact hn)
    (fun j v hj => by
      rw [Array.getElem?_toList] at hj
      obtain ⟨hj, -⟩ := get_ext hj
      have e : (⟨g, os, none⟩ : Addr).add j = ⟨g, os + j, none⟩ := by
        unfold Addr.add
        split
        · next h0 => subst h0; rfl
        · rfl
      rw [e, hb.cell]
      exact hj)
    (fun j hj => by rw [hb.cell, Array.getElem?_eq_getElem (by omega)]; rfl) (fun j hj => hb.frozen _)
    (fun v hv => by
      have := ones_extract hone os (os + n)
      rw [Array.all_eq_true_iff_forall_mem] at this
      exact this v (Array.mem_toList_iff.1 hv))
  rw [hl, setCells_list g od t _ w cs hb (by simp; omega)] at hrun
  unfold Oper.wp execOp
  simp only [ho, resolve, invoke, builtin, Sem.run_bind, Sem.run_pure, Result.andThen_ok, List.map_toArray, List.map_cons, List.map_nil, hd, hs, hrun]
  exact h _ (Lib.hid rfl)

theorem built_st0 : Try.prog.built 49 [] = some (zc Try.prog 49) := by
  have hz : ((Try.prog.info? 49).bind (·.zero)).isSome = true := by kernel_rfl
  rw [built_struct hz Try.underlying49 (places := [(0, 1), (1, 32), (33, 1), (34, 9), (43, 98), (141, 256), (397, 256), (653, 1), (654, 65), (719, 1), (720, 1), (721, 1), (722, 1), (723, 256), (979, 8), (987, 1), (988, 1), (989, 4), (993, 33), (1026, 33), (1059, 33), (1092, 1), (1093, 432), (1525, 432)]) (by kernel_rfl), fill_nil]

/-- The literal of two checkpoints. -/
@[simp] theorem szzChk2 : (zc Try.prog 67).size = 66 := by kernel_rfl
theorem szChk2 : (Try.prog.info? 67).map (·.size) = some 66 := by kernel_rfl
theorem built_chk2 (x y : Array Value) (hx : x.size = 33) (hy : y.size = 33) : Try.prog.built 67 [(0, .agg x), (1, .agg y)] = some (x ++ y) := by
  have hs := szzChk2
  rw [built_array (by kernel_rfl) Try.underlying67 szCheck]
  generalize zc Try.prog 67 = Z at hs
  have h1 : (patch Z 0 x).size = 66 := by rw [size_patch (by omega)]; exact hs
  rw [fill_cons (off := 0) (by show some (0 * 33, 33) = some (0, x.size); rw [hx]) (by show 0 + x.size ≤ _; omega),
    fill_cons (off := 33) (by show some (1 * 33, 33) = some (33, y.size); rw [hy]) (by show 33 + y.size ≤ (patch Z 0 x).size; omega), fill_nil]
  congr 1
  apply Array.ext_getElem?
  intro i
  show (patch (patch Z 0 x) 33 y)[i]? = (x ++ y)[i]?
  simp only [Array.getElem?_append]
  by_cases a1 : i < 33
  · rw [get_patch_out (by omega) (by omega), get_patch_in (by omega) (by omega) (by omega), if_pos (by omega)]; rfl
  · rw [if_neg (by omega)]
    by_cases a2 : i < 66
    · rw [get_patch_in (by omega) (by omega) (by omega), hx]
    · rw [Array.getElem?_eq_none (by rw [size_patch (by omega)]; omega), Array.getElem?_eq_none (by omega)]
/-- The two checkpoints that were. -/
def old2 (cs : Array Value) : Array Value := cs.extract 993 (993 + 33) ++ cs.extract 1026 (1026 + 33)
theorem size_old2 {cs : Array Value} (h : 1957 ≤ cs.size) : (old2 cs).size = 66 := by simp [old2]; omega
theorem ones_old2 {cs : Array Value} (h : cs.all (·.oneCell') = true) : (old2 cs).all (·.oneCell') = true := by
  simp only [old2, Array.all_append, ones_extract h, Bool.and_self]
theorem built_old2 {cs : Array Value} (h : 1957 ≤ cs.size) : Try.prog.built 67 [(0, .agg (cs.extract 993 (993 + 33))), (1, .agg (cs.extract 1026 (1026 + 33)))] = some (old2 cs) :=
  built_chk2 _ _ (by simp; omega) (by simp; omega)
theorem old2_get {cs : Array Value} (h : 1957 ≤ cs.size) {j : Nat} (hj : j < 66) : (old2 cs)[j]? = cs[993 + j]? := by
  have e1 : (cs.extract 993 (993 + 33)).size = 33 := by simp; omega
  simp only [old2, Array.getElem?_append, e1]
  by_cases a1 : j < 33
  · rw [if_pos a1, Array.getElem?_extract, if_pos (by omega)]
  · rw [if_neg a1, Array.getElem?_extract, if_pos (by omega)]; congr 1; omega
theorem old2_part {cs : Array Value} (h : 1957 ≤ cs.size) {k : Nat} (hk : k < 2) : (old2 cs).extract (k * 33) (k * 33 + 33) = oldK cs k := by
  apply Array.ext_getElem?
  intro i
  unfold oldK
  rw [Array.getElem?_extract, Array.getElem?_extract, size_old2 h]
  by_cases hi : i < 33
  · rw [if_pos (by omega), if_pos (by omega), old2_get h (by omega)]; congr 1; omega
  · rw [if_neg (by omega), if_neg (by omega)]

/-- In the midst of Weigh: the state's variable holds c; what the clone made stands. -/
structure Mid (w w1 w2 w' : World) (c : Array Value) : Prop where
  bel : Below w.heap.size w w'
  blk : Blk w' w.heap.size 49 c
  zz : Blk w' (w.heap.size + 1) 49 (zc Try.prog 49)
  size : w2.heap.size ≤ w'.heap.size
  fr : ∀ b, w1.heap.size ≤ b → b < w2.heap.size → w'.heap[b]? = w2.heap[b]?
section
variable {w w1 w2 w' w'' : World} {c : Array Value}
theorem Mid.set (h : Mid w w1 w2 w' c) (h1 : w.heap.size + 2 ≤ w1.heap.size) (c' : Array Value) : Mid w w1 w2 (w'.setRow w.heap.size c') c' :=
  ⟨below_setRow h.bel (Nat.le_refl _) _, h.blk.setRow _, h.zz.setRow_other (by omega) _, by rw [size_setRow]; exact h.size, fun b hb hb2 => (setRow_other _ _ _ _ (by omega)).trans (h.fr b hb hb2)⟩
theorem Mid.alloc (h : Mid w w1 w2 w' c) (h2 : w.heap.size + 2 ≤ w2.heap.size) (o : Obj) : Mid w w1 w2 (w'.alloc o) c :=
  ⟨h.bel.alloc (by have := h.size; omega) _, h.blk.alloc _, h.zz.alloc _, by rw [World.size_alloc]; have := h.size; omega, fun b hb hb2 => (Below.heap_alloc _ _ _ (by have := h.size; omega)).trans (h.fr b hb hb2)⟩
theorem Mid.setNew (h : Mid w w1 w2 w' c) (h2 : w.heap.size + 2 ≤ w2.heap.size) {g : Nat} (hg : w2.heap.size ≤ g) (c' : Array Value) : Mid w w1 w2 (w'.setRow g c') c :=
  ⟨below_setRow h.bel (by omega) _, h.blk.setRow_other (by omega) _, h.zz.setRow_other (by omega) _, by rw [size_setRow]; exact h.size, fun b hb hb2 => (setRow_other _ _ _ _ (by omega)).trans (h.fr b hb hb2)⟩
theorem Mid.drew (h : Mid w w1 w2 w' c) : Mid w w1 w2 w'.drew c := ⟨h.bel.drew, h.blk.drew, h.zz.drew, h.size, h.fr⟩
theorem Mid.below (h : Mid w w1 w2 w' c) (h2 : w.heap.size + 2 ≤ w2.heap.size) (hb : Below w'.heap.size w' w'') : Mid w w1 w2 w'' c :=
  ⟨h.bel.trans (hb.mono (by have := h.size; omega)), h.blk.below hb (by have := h.size; omega), h.zz.below hb (by have := h.size; omega), Nat.le_trans h.size hb.size, fun b hb1 hb2 => (hb.block b (by have := h.size; omega)).trans (h.fr b hb1 hb2)⟩
theorem Mid.cell_ (h : Mid w w1 w2 w' c) (i : Nat) (u : Value) (h1 : w.heap.size + 2 ≤ w1.heap.size) : Mid w w1 w2 (w'.setCell ⟨w.heap.size, i, none⟩ u) (c.setIfInBounds i u) := by
  have hb := h.blk
  unfold Blk at hb
  rw [setCell_eq_setRow w' w.heap.size i c _ (0, 0) u hb]
  exact h.set h1 _
end
theorem _root_.Go.Proofs.Ytikbkcidalippaa.Blk.setCell_other_ {w : World} {g : Nat} {t : TypeId} {cs : Array Value} (h : Blk w g t cs) {p : Addr} (hp : g ≠ p.block) (u : Value) : Blk (w.setCell p u) g t cs := blk_setCell_other h hp u
theorem Blk.has {w : World} {g : Nat} {t : TypeId} {cs : Array Value} (h : Blk w g t cs) {i : Nat} (hi : i < cs.size) : ∃ u, w.cell? ⟨g, i, none⟩ = some u := ⟨cs[i], by rw [h.cell, Array.getElem?_eq_getElem hi]⟩
theorem Owned.keep {w w' : World} {lo : Nat} {cs : Array Value} {L : Nat → List Value} (h : Owned w lo cs L) (hk : ∀ b, lo ≤ b → b < w.heap.size → w'.heap[b]? = w.heap[b]?) : Owned w' lo cs L :=
  ⟨fun k hk' => let ⟨a, n, c, e, o⟩ := h.own k hk'; ⟨a, n, c, e, own_block o (fun b hb => hk b (o.lt b hb).1 (o.lt b hb).2)⟩, h.apart⟩
theorem Owned.cells {w : World} {lo : Nat} {cs cs' : Array Value} {L : Nat → List Value} (h : Owned w lo cs L) (he : ∀ k, isSO k → cs'[k]? = cs[k]?) : Owned w lo cs' L :=
  ⟨fun k hk => let ⟨a, n, c, e, o⟩ := h.own k hk; ⟨a, n, c, (he k hk).trans e, o⟩, fun j k hj hk hne vj vk b ej ek => h.apart j k hj hk hne vj vk b ((he j hj).symm.trans ej) ((he k hk).symm.trans ek)⟩
theorem Owned.base {w : World} {lo lo' : Nat} {cs : Array Value} {L : Nat → List Value} (h : Owned w lo cs L) (hb : lo' ≤ lo) : Owned w lo' cs L :=
  ⟨fun k hk => let ⟨a, n, c, e, o⟩ := h.own k hk; ⟨a, n, c, e, o.1, by
    rcases o.2 with h2 | ⟨g, cap, cur, hv, hg, r⟩
    · exact .inl h2
    · exact .inr ⟨g, cap, cur, hv, Nat.le_trans hb hg, r⟩⟩, h.apart⟩
theorem Owned.isSt {w w0 : World} {lo B : Nat} {cs cs0 : Array Value} {L : Nat → List Value} (h : Owned w lo cs L) (hwf : WfC cs) (h0 : IsSt w0 B cs0 L) : IsSt w w.heap.size cs L :=
  ⟨hwf, fun k hk => by
    obtain ⟨a, n, c, e, o⟩ := h.own k hk
    obtain ⟨a0, n0, c0, -, hs⟩ := h0.sl k hk
    have en : n = n0 := Nat.eq_of_mul_eq_mul_right (esz_pos k) (o.1.symm.trans hs.len)
    exact ⟨a, n, c, e, SlR.own o (by rw [en]; exact hs.reach)⟩, h0.el⟩

/-- A row of four numbers; the four ways. -/
def int4 (a b c d : Int) : Array Value := #[.int .i64 a, .int .i64 b, .int .i64 c, .int .i64 d]
def ways16 : Array Value := int4 1 4 0 3 ++ int4 1 3 0 2 ++ int4 0 3 1 2 ++ int4 0 2 1 1
theorem szInt4 : (Try.prog.info? 72).map (·.size) = some 4 := by kernel_rfl
theorem szzInt4a : (zc Try.prog 72).size = 4 := by kernel_rfl
theorem szInt : (Try.prog.info? 3).map (·.size) = some 1 := by kernel_rfl
theorem b4 (a b c d : Int) : Try.prog.built 72 [(0, .int .i64 a), (1, .int .i64 b), (2, .int .i64 c), (3, .int .i64 d)] = some (int4 a b c d) := by
  have hs := szzInt4a
  rw [built_array (by kernel_rfl) Try.underlying72 szInt]
  generalize zc Try.prog 72 = Z at hs
  obtain ⟨z0, z1, z2, z3, rfl⟩ : ∃ z0 z1 z2 z3, Z = #[z0, z1, z2, z3] := by
    rcases Z with ⟨l⟩
    match l, hs with
    | [z0, z1, z2, z3], _ => exact ⟨z0, z1, z2, z3, rfl⟩
  rfl
theorem b16 (w x y z : Array Value) (hw : w.size = 4) (hx : x.size = 4) (hy : y.size = 4) (hz : z.size = 4) : Try.prog.built 73 [(0, .agg w), (1, .agg x), (2, .agg y), (3, .agg z)] = some (w ++ x ++ y ++ z) := by
  have hs : (zc Try.prog 73).size = 16 := by kernel_rfl
  rw [built_array (by kernel_rfl) Try.underlying73 szInt4]
  generalize zc Try.prog 73 = Z at hs
  have h1 : (patch Z 0 w).size = 16 := by rw [size_patch (by omega)]; exact hs
  have h2 : (patch (patch Z 0 w) 4 x).size = 16 := by rw [size_patch (by omega)]; exact h1
  have h3 : (patch (patch (patch Z 0 w) 4 x) 8 y).size = 16 := by rw [size_patch (by omega)]; exact h2
  rw [fill_cons (off := 0) (by show some (0 * 4, 4) = some (0, w.size); rw [hw]) (by show 0 + w.size ≤ _; omega),
    fill_cons (off := 4) (by show some (1 * 4, 4) = some (4, x.size); rw [hx]) (by show 4 + x.size ≤ (patch Z 0 w).size; omega),
    fill_cons (off := 8) (by show some (2 * 4, 4) = some (8, y.size); rw [hy]) (by show 8 + y.size ≤ (patch (patch Z 0 w) 4 x).size; omega),
    fill_cons (off := 12) (by show some (3 * 4, 4) = some (12, z.size); rw [hz]) (by show 12 + z.size ≤ (patch (patch (patch Z 0 w) 4 x) 8 y).size; omega), fill_nil]
  congr 1
  apply Array.ext_getElem?
  intro i
  show (patch (patch (patch (patch Z 0 w) 4 x) 8 y) 12 z)[i]? = (w ++ x ++ y ++ z)[i]?
  simp only [Array.getElem?_append, Array.size_append]
  by_cases a1 : i < 4
  · rw [get_patch_out (by omega) (by omega), get_patch_out (by omega) (by omega), get_patch_out (by omega) (by omega), get_patch_in (by omega) (by omega) (by omega), if_pos (by omega), if_pos (by omega), if_pos (by omega)]; rfl
  by_cases a2 : i < 8
  · rw [get_patch_out (by omega) (by omega), get_patch_out (by omega) (by omega), get_patch_in (by omega) (by omega) (by omega), if_pos (by omega), if_pos (by omega), if_neg (by omega), hw]
  by_cases a3 : i < 12
  · rw [get_patch_out (by omega) (by omega), get_patch_in (by omega) (by omega) (by omega), if_pos (by omega), if_neg (by omega)]; congr 1; omega
  by_cases a4 : i < 16
  · rw [get_patch_in (by omega) (by omega) (by omega), if_neg (by omega)]; congr 1; omega
  · rw [Array.getElem?_eq_none (by rw [size_patch (by omega)]; omega), if_neg (by omega), Array.getElem?_eq_none (by omega)]
theorem szInt4' : (Try.prog.info? 72).map (·.size) = some 4 := by kernel_rfl
@[simp] theorem szzInt4 : (zc Try.prog 72).size = 4 := by kernel_rfl
theorem runTo_congr {c c' : Array Value} (h : ∀ i, 989 ≤ i → i < 993 → c'[i]? = c[i]?) (b : Nat) : ∀ m, b + m ≤ 4 → runTo c' b m = runTo c b m
  | 0, _ => rfl
  | m + 1, hm => by
    have e : cB c' (989 + b + m) = cB c (989 + b + m) := by unfold cB; rw [h _ (by omega) (by omega)]
    simp only [runTo, e, runTo_congr h b m (by omega)]
theorem size_oldK {cs : Array Value} (h : 1957 ≤ cs.size) {k : Nat} (hk : k < 2) : (oldK cs k).size = 33 := by unfold oldK; simp; omega

set_option maxHeartbeats 4000000 in
theorem weigh_ok (cs : Array Value) (L : Nat → List Value) (B : Nat) (w : World) (hB : B ≤ w.heap.size) (h : IsSt w B cs L) (hr : RightP cs L) (hm : cN cs 33 % 4 = 3) (all prev cur : Int)
    (a0 : 0 ≤ all) (a1 : all ≤ 1152921504606846976) (p0 : 0 ≤ prev) (p1 : prev ≤ 1152921504606846976) (c0 : 0 ≤ cur) (c1 : cur ≤ 1152921504606846976) :
    Calls Try.prog 10 #[.agg cs, .int .u64 all, .int .u64 prev, .int .u64 cur] w fun e w' => ∃ cs', e = .returned (.tuple #[.agg (weighC cs' all prev cur), .int .i64 0]) ∧ (∀ i, ¬ isSO i → cs'[i]? = cs[i]?) ∧ IsSt w' w'.heap.size cs' L ∧ Owned w' w.heap.size cs' L ∧ Below w.heap.size w w' := by
  obtain ⟨h33, w33⟩ := h.wf.u64 33 rfl
  have s1 := hr.slot
  obtain ⟨w33a, w33b⟩ := w33
  have H := Lib.hid h
  have R := Lib.hid (rightB_yes hr)
  have Hone := Lib.hid h.wf.ones
  have hsz1 : 1957 ≤ cs.size := Nat.le_of_eq h.wf.size.symm
  have hsz2 : cs.size ≤ 1957 := Nat.le_of_eq h.wf.size
  have m1 : (cN cs 33 % 4 != 3) = false := by rw [hm]; rfl
  have m2 : decide (1152921504606846976 < max (max all prev) cur) = false := decide_eq_false (by omega)
  have Hm := Lib.hid hm
  clear h hr hm
  generalize hs : cN cs 33 = s at *
  have Hs := Lib.hid hs
  clear hs
  go_enter Try.func10, Try.ntmps10
  go_upto_region 1 with ((with_reducible apply l_alloc 49); (focus kernel_rfl); (try go_frame))
  simp only [World.size_alloc]
  obtain ⟨wx, hwx⟩ : ∃ wx : World, wx = (w.alloc (.cells cs 49)).alloc (.cells (zc Try.prog 49) 49) := ⟨_, rfl⟩
  have hbx : Below w.heap.size w wx := by rw [hwx]; exact (by (repeat (first | exact Below.refl _ _ | apply Below.drew | apply below_drewN | (refine Below.alloc ?_ ?_ _) | (refine below_setRow ?_ ?_ _) | (refine Below.setCell ?_ ?_ _) | (refine Below.trans ?_ (Below.mono (by assumption) ?_)) | omega | (focus (simp; done)) | (focus (simp; omega)))))
  have hkx : Blk wx w.heap.size 49 cs := by rw [hwx]; exact (by (repeat (first | assumption | (apply Blk.newAt; (focus (simp; done))) | apply Blk.alloc | apply Blk.setRow | apply Blk.drewN | apply Blk.drew | (refine Blk.setRow_other ?_ ?_ _; focus (first | omega | (simp; omega))))))
  have hzx : Blk wx (w.heap.size + 1) 49 (zc Try.prog 49) := by rw [hwx]; exact (by (repeat (first | assumption | (apply Blk.newAt; (focus (simp; done))) | apply Blk.alloc | apply Blk.setRow | apply Blk.drewN | apply Blk.drew | (refine Blk.setRow_other ?_ ?_ _; focus (first | omega | (simp; omega))))))
  have hgx : w.heap.size + 2 ≤ wx.heap.size := by rw [hwx]; simp
  rw [← hwx]
  clear hwx
  have Bx := Lib.hid hbx
  go_upto_region 4 with (first
    | ((with_reducible apply l_loadw 49); (focus rfl); (focus (repeat (first | assumption | (apply Blk.newAt; (focus (simp; done))) | apply Blk.alloc | apply Blk.setRow | apply Blk.drewN | apply Blk.drew | (refine Blk.setRow_other ?_ ?_ _; focus (first | omega | (simp; omega)))))); (focus exact Try.underlying49); (focus rfl); (focus exact szState); (focus (first | exact omega | (first | omega | (simp; done) | (simp; omega) | assumption))); (try go_frame))
    | (go_at_call 24; refine (right_any cs L w.heap.size _ (by omega) ?_).mono ?_
       focus (exact (H.out.more hB).below Bx.out)
       rintro e w1 ⟨rfl, hb1⟩
       rw [R.out]
       have hg1 : wx.heap.size ≤ w1.heap.size := hb1.size
       have hd1 : Below w.heap.size w w1 := Below.trans hbx (Below.mono hb1 (by omega))
       have hk1 : Blk w1 w.heap.size 49 cs := Blk.below hkx hb1 (by omega)
       have hz1 : Blk w1 (w.heap.size + 1) 49 (zc Try.prog 49) := Blk.below hzx hb1 (by omega)
       have D1 := Lib.hid hd1
       clear hkx hzx hbx hb1
       have hcell := hk1.cell
       have hfz := hk1.frozen)
    | (go_at_call 25; refine (clone_any cs L w.heap.size _ (by omega) ?_).mono ?_
       focus (exact (H.out.more hB).below D1.out)
       rintro e w2 ⟨cu, rfl, hcu, hst, how, hb2⟩
       have hg2 : w1.heap.size ≤ w2.heap.size := hb2.size
       have hd2 : Below w.heap.size w w2 := Below.trans hd1 (Below.mono hb2 (by omega))
       have hk2 : Blk w2 w.heap.size 49 cs := Blk.below hk1 hb2 (by omega)
       have hz2 : Blk w2 (w.heap.size + 1) 49 (zc Try.prog 49) := Blk.below hz1 hb2 (by omega)
       have D2 := Lib.hid hd2
       have HU := Lib.hid (And.intro hcu (And.intro hst how))
       have hu1 : 1957 ≤ cu.size := Nat.le_of_eq hst.wf.size.symm
       have hu2 : cu.size ≤ 1957 := Nat.le_of_eq hst.wf.size
       have HO := Lib.hid hst.wf.ones
       clear hk1 hz1 hd1 hb2 hcu hst how hcell hfz)
    | ((with_reducible apply l_storew 49); (focus rfl); (focus rfl); (focus (repeat (first | assumption | (apply Blk.newAt; (focus (simp; done))) | apply Blk.alloc | apply Blk.setRow | apply Blk.drewN | apply Blk.drew | (refine Blk.setRow_other ?_ ?_ _; focus (first | omega | (simp; omega)))))); (focus exact szState); (focus (first | exact omega | (first | omega | (simp; done) | (simp; omega) | assumption))); (focus (first | omega | (simp; done) | (simp; omega) | assumption)); (focus exact HO.out); (focus (repeat (first | (apply setRow_eq_at; (focus (simp; done))) | (refine setRow_eq_past ?_ ?_; (focus (first | (simp; done) | omega | (simp; omega)))) | apply setRow_eq_drewN | apply setRow_eq_drew | rfl))); (try go_frame)))
  generalize (if (if all < prev then prev else all) < cur then cur else if all < prev then prev else all) = mx
  generalize decide (1152921504606846976 < mx) = bx
  clear m1 m2
  obtain ⟨w3, hw3⟩ : ∃ w3 : World, w3 = w2.setRow w.heap.size cu := ⟨_, rfl⟩
  have M3 : Mid w w1 w2 w3 cu := by
    rw [hw3]
    exact ⟨below_setRow D2.out (by omega) _, hk2.setRow _, hz2.setRow_other (by omega) _, by rw [size_setRow]; exact Nat.le_refl _, fun b hb1 hb2 => setRow_other _ _ _ _ (by omega)⟩
  rw [← hw3]
  clear hw3 hk2 hz2 hd2
  have hcell := M3.blk.cell
  have hfz := M3.blk.frozen
  have u33 : cu[33]? = some (.int .u64 s) := by rw [HU.out.1 33 (by decide)]; exact h33
  have hB2 := Lib.hid (built_old2 hu1)
  have hO2 := Lib.hid (ones_old2 HO.out)
  have hS2 := Lib.hid (size_old2 hu1)
  have hM3 := Lib.hid M3
  obtain ⟨OA, hOA⟩ : ∃ OA, OA = old2 cu := ⟨_, rfl⟩
  rw [← hOA] at hB2 hO2 hS2
  have HOA := Lib.hid hOA
  clear hOA
  have hblk := M3.blk
  clear M3
  go_upto_region 7 with (first
    | ((with_reducible apply l_load 42); (focus rfl); (focus (repeat (first | assumption | (apply Blk.newAt; (focus (simp; done))) | apply Blk.alloc | apply Blk.setRow | apply Blk.drewN | apply Blk.drew | (refine Blk.setRow_other ?_ ?_ _; focus (first | omega | (simp; omega)))))); (focus exact Try.underlying42); (focus rfl); (focus exact szCheck); (focus (first | omega | (simp; done) | (simp; omega) | assumption)); (try go_frame))
    | ((with_reducible apply l_build 67); (focus rfl); (focus exact hB2.out); (try go_frame))
    | ((with_reducible apply l_alloc 67); (focus kernel_rfl); (try go_frame))
    | ((with_reducible apply l_storew 67); (focus rfl); (focus rfl); (focus (repeat (first | assumption | (apply Blk.newAt; (focus (simp; done))) | apply Blk.alloc | apply Blk.setRow | apply Blk.drewN | apply Blk.drew | (refine Blk.setRow_other ?_ ?_ _; focus (first | omega | (simp; omega)))))); (focus exact szChk2); (focus (first | exact hS2.out | (first | omega | (simp; done) | (simp; omega) | assumption))); (focus (first | omega | (simp; done) | (simp; omega) | assumption)); (focus exact hO2.out); (focus (repeat (first | (apply setRow_eq_at; (focus (simp; done))) | (refine setRow_eq_past ?_ ?_; (focus (first | (simp; done) | omega | (simp; omega)))) | apply setRow_eq_drewN | apply setRow_eq_drew | rfl))); (try go_frame))
    | ((with_reducible apply l_store 42); (focus rfl); (focus rfl); (focus (repeat (first | assumption | (apply Blk.newAt; (focus (simp; done))) | apply Blk.alloc | apply Blk.setRow | apply Blk.drewN | apply Blk.drew | (refine Blk.setRow_other ?_ ?_ _; focus (first | omega | (simp; omega)))))); (focus exact szCheck); (focus (first | exact (by simp; omega) | (first | omega | (simp; done) | (simp; omega) | assumption))); (focus (first | omega | (simp; done) | (simp; omega) | assumption)); (focus exact (ones_extract HO.out _ _)); (focus (repeat (first | (apply setRow_eq_at; (focus (simp; done))) | (refine setRow_eq_past ?_ ?_; (focus (first | (simp; done) | omega | (simp; omega)))) | apply setRow_eq_drewN | apply setRow_eq_drew | rfl))); (try go_frame)))
  obtain ⟨w4, hw4⟩ : ∃ w4 : World, w4 = (w3.alloc (.cells OA 67)).setRow w.heap.size (patch cu 993 (cu.extract 1026 (1026 + 33))) := ⟨_, rfl⟩
  have M4 : Mid w w1 w2 w4 (patch cu 993 (cu.extract 1026 (1026 + 33))) := by
    rw [hw4]
    exact (hM3.out.alloc (by omega) _).set (by omega) _
  have K4 : Blk w4 w3.heap.size 67 OA := by
    rw [hw4]
    exact (Blk.newAt rfl).setRow_other (by have := hM3.out.size; omega) _
  have hg3 : w2.heap.size ≤ w3.heap.size := hM3.out.size
  have hg4 : w3.heap.size < w4.heap.size := K4.lt
  rw [← hw4]
  clear hw4 hblk hcell hfz hM3 u33
  have hblk := M4.blk
  have hM4 := Lib.hid M4
  have HO4 := Lib.hid (((HU.out.2.1.wf.mvchk HU.out.2.1.wf (.inl rfl) (.inr (.inl rfl))).ones))
  have hs4 : 1957 ≤ (patch cu 993 (cu.extract 1026 (1026 + 33))).size := Nat.le_of_eq (HU.out.2.1.wf.mvchk HU.out.2.1.wf (.inl rfl) (.inr (.inl rfl))).size.symm
  obtain ⟨c4, hc4⟩ : ∃ c4, c4 = patch cu 993 (cu.extract 1026 (1026 + 33)) := ⟨_, rfl⟩
  rw [← hc4] at hblk hM4 HO4 hs4
  have HC4 := Lib.hid hc4
  clear hc4 M4
  have hcell := hblk.cell
  have hfz := hblk.frozen
  go_region_law (refine step_copy_blk rfl (.tmp 49) (.tmp 51) 68 68 rfl 4 (by kernel_rfl) (by kernel_rfl) rfl rfl hblk.drew 3 (by decide) (by omega) (by omega) HO4.out ?_; intro w5 hw5)
  have hw5 := hw5.out
  have hM5 := Lib.hid (hM4.out.drew.set (w' := w4.drew) (by omega) (patch c4 990 (c4.extract 989 (989 + 3))))
  have K5 := (K4.drew.setRow_other (k := w.heap.size) (by omega) (patch c4 990 (c4.extract 989 (989 + 3))))
  rw [← hw5] at hM5 K5
  have hg5 : w5.heap.size = w4.heap.size := by rw [hw5, size_setRow]; rfl
  have e6 := HC4.out
  have wf6 : WfC (shiftC cu) := HU.out.2.1.wf.shift
  have sl6 : (shiftC cu)[33]? = cu[33]? := shift_out HU.out.2.1.wf.size (by omega)
  have e6' : (patch c4 990 (c4.extract 989 (989 + 3))).setIfInBounds 989 (.bool false) = shiftC cu := by rw [e6]; rfl
  have E6 := Lib.hid e6'
  have Wf6 := Lib.hid wf6
  have Sl6 := Lib.hid sl6
  clear hw5 hblk hcell hfz e6 e6' wf6 sl6 hs4 K4
  have hfz := hM5.out.blk.frozen
  have hcl : w5.cell? ⟨w.heap.size, 989, none⟩ = (patch c4 990 (c4.extract 989 (989 + 3)))[989]? := hM5.out.blk.cell 989
  have hce : ∃ u, (patch c4 990 (c4.extract 989 (989 + 3)))[989]? = some u := by
    have : (patch c4 990 (c4.extract 989 (989 + 3))).size = 1957 := by
      have := Wf6.out.size
      rw [← E6.out, Array.size_setIfInBounds] at this
      exact this
    exact ⟨_, Array.getElem?_eq_getElem (by omega)⟩
  obtain ⟨u989, hce⟩ := hce
  rw [hce] at hcl
  clear hce
  go_upto_region 9 with fail
  have M6 := hM5.out.cell_ 989 (.bool false) (by omega)
  have K6 := K5.setCell_other_ (p := ⟨w.heap.size, 989, none⟩) (by show w3.heap.size ≠ w.heap.size; omega) (.bool false)
  rw [E6.out] at M6
  obtain ⟨w6, hw6⟩ : ∃ w6 : World, w6 = w5.setCell ⟨w.heap.size, 989, none⟩ (.bool false) := ⟨_, rfl⟩
  have hg6 : w3.heap.size < w6.heap.size := by rw [hw6, World.size_setCell]; omega
  rw [← hw6] at M6 K6
  rw [← hw6]
  have u33 : (shiftC cu)[33]? = some (.int .u64 s) := by rw [Sl6.out, HU.out.1 33 (by decide)]; exact h33
  have n33 : cN (shiftC cu) 33 = s := by unfold cN; rw [u33]; rfl
  obtain ⟨c6, hc6⟩ : ∃ c6, c6 = shiftC cu := ⟨_, rfl⟩
  rw [← hc6] at M6 Wf6 n33
  have C6 := Lib.hid hc6
  have N33 := Lib.hid n33
  have hM6 := Lib.hid M6
  clear hw6 hc6 u33 n33 M6 K5 hcl hfz hM5 E6 Sl6 HC4 HO4 hM4
  have HK6 := Lib.hid K6
  clear K6
  have HE := Lib.hid (show W64 (s / 4) from ⟨by omega, by omega⟩)
  go_upto_if 59 with fail
  go_cut [] (fun wq => Hid (Mid w w1 w2 wq (prevC c6 (s / 4) all prev)) ∧ Hid (Blk wq w3.heap.size 67 OA) ∧ w3.heap.size < wq.heap.size)
  case first =>
    by_cases hp : 2 * all ≤ 3 * prev
    · have HP := Lib.hid (show prevC c6 (s / 4) all prev = markC c6 (subz (s / 4) 1) 990 from if_pos hp)
      have hsz : W64 (subz (s / 4) 1) := subz_w HE.out (b := 1) ⟨by omega, by omega⟩
      have HSZ := Lib.hid hsz
      have hr1 : (subz (s / 4) 1) * 4 < s ∧ s ≤ (subz (s / 4) 1) * 4 + 8 := by
        have := Hm.out
        unfold subz; split <;> omega
      have HR1 := Lib.hid hr1
      obtain ⟨V, hV⟩ : ∃ V, V = chk (subz (s / 4) 1) (rootOf c6 ((subz (s / 4) 1) * 4)) := ⟨_, rfl⟩
      have HV := Lib.hid hV
      have HVs : Hid (V.size = 33) := Lib.hid (by rw [hV]; exact size_chk (size_rootOf Wf6.out.size _))
      have HVo : Hid (V.all (·.oneCell') = true) := Lib.hid (by rw [hV]; exact ones_chk (ones_extract Wf6.out.ones _ _))
      have HMK : Hid ((patch c6 1026 V).setIfInBounds 990 (.bool true) = markC c6 (subz (s / 4) 1) 990) := Lib.hid (by rw [hV]; rfl)
      clear hV hsz hr1
      have hs6 : 1957 ≤ c6.size := Nat.le_of_eq Wf6.out.size.symm
      go_wp2_with (first
        | (go_at_call 27; refine (less_any _ _ HE.out ⟨by omega, by omega⟩ _).mono ?_; rintro e w' ⟨rfl, rfl⟩)
        | (go_at_call 26; refine (mark_ok c6 Wf6.out _ _ HSZ.out (by rw [N33.out]; exact HR1.out.1) (by rw [N33.out]; exact HR1.out.2) _ hM6.out.blk).mono ?_
           rintro e w7 ⟨rfl, hb7⟩
           rw [← HV.out]
           have hM7 := Lib.hid (hM6.out.below (by omega) hb7)
           have K7 := Lib.hid ((HK6.out.below hb7 hg6).setRow_other (k := w.heap.size) (by omega) (patch c6 1026 V))
           have hblk := hM7.out.blk
           have hg7 := hb7.size
           have hM8 := Lib.hid (hM7.out.set (by omega) (patch c6 1026 V))
           have hfz := hM8.out.blk.frozen
           obtain ⟨u8, hcl8⟩ := hM8.out.blk.has (i := 990) (by rw [size_patch (by rw [HVs.out]; omega)]; omega)
           clear hb7)
        | ((with_reducible apply l_store 42); (focus rfl); (focus rfl); (focus (repeat (first | assumption | (apply Blk.newAt; (focus (simp; done))) | apply Blk.alloc | apply Blk.setRow | apply Blk.drewN | apply Blk.drew | (refine Blk.setRow_other ?_ ?_ _; focus (first | omega | (simp; omega)))))); (focus exact szCheck); (focus (first | exact HVs.out | (first | omega | (simp; done) | (simp; omega) | assumption))); (focus (first | omega | (simp; done) | (simp; omega) | assumption)); (focus exact HVo.out); (focus (repeat (first | (apply setRow_eq_at; (focus (simp; done))) | (refine setRow_eq_past ?_ ?_; (focus (first | (simp; done) | omega | (simp; omega)))) | apply setRow_eq_drewN | apply setRow_eq_drew | rfl))); (try go_frame)))
      go_meet
      refine ⟨Lib.hid ?_, Lib.hid (K7.out.setCell_other_ (show w3.heap.size ≠ w.heap.size by omega) _), by rw [World.size_setCell, size_setRow]; omega⟩
      rw [HP.out, ← HMK.out]
      exact hM8.out.cell_ 990 (.bool true) (by omega)
    · have HP := Lib.hid (show prevC c6 (s / 4) all prev = c6 from if_neg hp)
      go_wp2_with fail
      go_meet
      exact ⟨by rw [HP.out]; exact hM6, HK6, hg6⟩
  case rest =>
  rename World => w9
  obtain ⟨hM9, HK9, hg9⟩ := hcut
  obtain ⟨c9, hc9⟩ : ∃ c9, c9 = prevC c6 (s / 4) all prev := ⟨_, rfl⟩
  have Wf9 : Hid (WfC c9) := Lib.hid (by rw [hc9]; exact Wf6.out.prev HE.out)
  have N9 : Hid (cN c9 33 = s) := Lib.hid (by
    have e : c9[33]? = c6[33]? := by rw [hc9]; exact prev_out Wf6.out.size (by omega) (by omega)
    unfold cN; rw [e]; exact N33.out)
  rw [← hc9] at hM9
  have C9 := Lib.hid hc9
  clear hc9 hM6 HK6 hg6
  go_upto_if 70 with fail
  go_cut [] (fun wq => Hid (Mid w w1 w2 wq (curC c9 (s / 4) all cur)) ∧ Hid (Blk wq w3.heap.size 67 OA) ∧ w3.heap.size < wq.heap.size)
  case first =>
    by_cases hp : 2 * all ≤ 3 * cur
    · have HP := Lib.hid (show curC c9 (s / 4) all cur = markC c9 (s / 4) 989 from if_pos hp)
      have hsz : W64 (s / 4) := HE.out
      have HSZ := Lib.hid hsz
      have hr1 : (s / 4) * 4 < s ∧ s ≤ (s / 4) * 4 + 8 := by
        have := Hm.out
        omega
      have HR1 := Lib.hid hr1
      obtain ⟨V, hV⟩ : ∃ V, V = chk (s / 4) (rootOf c9 ((s / 4) * 4)) := ⟨_, rfl⟩
      have HV := Lib.hid hV
      have HVs : Hid (V.size = 33) := Lib.hid (by rw [hV]; exact size_chk (size_rootOf Wf9.out.size _))
      have HVo : Hid (V.all (·.oneCell') = true) := Lib.hid (by rw [hV]; exact ones_chk (ones_extract Wf9.out.ones _ _))
      have HMK : Hid ((patch c9 1026 V).setIfInBounds 989 (.bool true) = markC c9 (s / 4) 989) := Lib.hid (by rw [hV]; rfl)
      clear hV hsz hr1
      have hs6 : 1957 ≤ c9.size := Nat.le_of_eq Wf9.out.size.symm
      go_wp2_with (first
        | (go_at_call 27; refine (less_any _ _ HE.out ⟨by omega, by omega⟩ _).mono ?_; rintro e w' ⟨rfl, rfl⟩)
        | (go_at_call 26; refine (mark_ok c9 Wf9.out _ _ HSZ.out (by rw [N9.out]; exact HR1.out.1) (by rw [N9.out]; exact HR1.out.2) _ hM9.out.blk).mono ?_
           rintro e w7 ⟨rfl, hb7⟩
           rw [← HV.out]
           have hM7 := Lib.hid (hM9.out.below (by omega) hb7)
           have K7 := Lib.hid ((HK9.out.below hb7 hg9).setRow_other (k := w.heap.size) (by omega) (patch c9 1026 V))
           have hblk := hM7.out.blk
           have hg7 := hb7.size
           have hM8 := Lib.hid (hM7.out.set (by omega) (patch c9 1026 V))
           have hfz := hM8.out.blk.frozen
           obtain ⟨u8, hcl8⟩ := hM8.out.blk.has (i := 989) (by rw [size_patch (by rw [HVs.out]; omega)]; omega)
           clear hb7)
        | ((with_reducible apply l_store 42); (focus rfl); (focus rfl); (focus (repeat (first | assumption | (apply Blk.newAt; (focus (simp; done))) | apply Blk.alloc | apply Blk.setRow | apply Blk.drewN | apply Blk.drew | (refine Blk.setRow_other ?_ ?_ _; focus (first | omega | (simp; omega)))))); (focus exact szCheck); (focus (first | exact HVs.out | (first | omega | (simp; done) | (simp; omega) | assumption))); (focus (first | omega | (simp; done) | (simp; omega) | assumption)); (focus exact HVo.out); (focus (repeat (first | (apply setRow_eq_at; (focus (simp; done))) | (refine setRow_eq_past ?_ ?_; (focus (first | (simp; done) | omega | (simp; omega)))) | apply setRow_eq_drewN | apply setRow_eq_drew | rfl))); (try go_frame)))
      go_meet
      refine ⟨Lib.hid ?_, Lib.hid (K7.out.setCell_other_ (show w3.heap.size ≠ w.heap.size by omega) _), by rw [World.size_setCell, size_setRow]; omega⟩
      rw [HP.out, ← HMK.out]
      exact hM8.out.cell_ 989 (.bool true) (by omega)
    · have HP := Lib.hid (show curC c9 (s / 4) all cur = c9 from if_neg hp)
      go_wp2_with fail
      go_meet
      exact ⟨by rw [HP.out]; exact hM9, HK9, hg9⟩
  case rest =>
  rename World => w12
  obtain ⟨hM12, HK12, hg12⟩ := hcut
  obtain ⟨c0, hc0⟩ : ∃ c0, c0 = curC c9 (s / 4) all cur := ⟨_, rfl⟩
  have Wf0 : Hid (WfC c0) := Lib.hid (by rw [hc0]; exact Wf9.out.cur HE.out)
  rw [← hc0] at hM12
  have C0 := Lib.hid hc0
  clear hc0 hM9 HK9 hg9
  obtain ⟨W, hW⟩ : ∃ W, W = int4 1 4 0 3 ++ int4 1 3 0 2 ++ int4 0 3 1 2 ++ int4 0 2 1 1 := ⟨_, rfl⟩
  have W16 : Hid (W.extract 0 4 = int4 1 4 0 3 ∧ W.extract 4 8 = int4 1 3 0 2 ∧ W.extract 8 12 = int4 0 3 1 2 ∧ W.extract 12 16 = int4 0 2 1 1) := Lib.hid ⟨by rw [hW]; rfl, by rw [hW]; rfl, by rw [hW]; rfl, by rw [hW]; rfl⟩
  have HB16 := Lib.hid (b16 (int4 1 4 0 3) (int4 1 3 0 2) (int4 0 3 1 2) (int4 0 2 1 1) rfl rfl rfl rfl)
  rw [← hW] at HB16
  clear hW
  go_wp2_with (first | ((with_reducible apply l_build 72); (focus rfl); (focus exact (b4 _ _ _ _)); (try go_frame)) | ((with_reducible apply l_build 73); (focus rfl); (focus exact HB16.out); (try go_frame)))
  go_loopw [81] (fun i wr => ∃ k : Nat, k ≤ 4 ∧ i = .int .i64 k ∧ Hid (Mid w w1 w2 wr (finN cu c0 (s / 4) k)) ∧ Hid (Blk wr w3.heap.size 67 OA) ∧ w3.heap.size < wr.heap.size) (fun i _ => 4 - (intOf i).toNat)
  case atStart => exact ⟨0, by omega, rfl, hM12, HK12, hg12⟩
  case round =>
    obtain ⟨k, hk, rfl, hM, hK, hg⟩ := hrel
    rcases (show k = 4 ∨ k = 0 ∨ k = 1 ∨ k = 2 ∨ k = 3 by omega) with rfl | rfl | rfl | rfl | rfl
    · have HEq : Hid (finN cu c0 (s / 4) 4 = weighC cu all prev cur) := Lib.hid (by
        have e : cN cu 33 = s := by rw [← Hs.out]; unfold cN; rw [HU.out.1 33 (by decide)]
        rw [C0.out, C9.out, C6.out]
        unfold weighC
        rw [e])
      have WfF : Hid (WfC (finN cu c0 (s / 4) 4)) := Lib.hid (HU.out.2.1.wf.fin Wf0.out (s / 4) 4)
      generalize finN cu c0 (s / 4) 4 = cF at *
      have hs1 : 1957 ≤ cF.size := Nat.le_of_eq WfF.out.size.symm
      have hs2 : cF.size ≤ 1957 := Nat.le_of_eq WfF.out.size
      have hbF := hM.out.blk
      have hzF := hM.out.zz
      go_wp2_with (first | ((with_reducible apply l_loadw 49); (focus rfl); (focus (repeat (first | assumption | (apply Blk.newAt; (focus (simp; done))) | apply Blk.alloc | apply Blk.setRow | apply Blk.drewN | apply Blk.drew | (refine Blk.setRow_other ?_ ?_ _; focus (first | omega | (simp; omega)))))); (focus exact Try.underlying49); (focus rfl); (focus exact szState); (focus (first | exact omega | (first | omega | (simp; done) | (simp; omega) | assumption))); (try go_frame)) | ((with_reducible apply l_storew 49); (focus rfl); (focus rfl); (focus (repeat (first | assumption | (apply Blk.newAt; (focus (simp; done))) | apply Blk.alloc | apply Blk.setRow | apply Blk.drewN | apply Blk.drew | (refine Blk.setRow_other ?_ ?_ _; focus (first | omega | (simp; omega)))))); (focus exact szState); (focus (first | exact omega | (first | omega | (simp; done) | (simp; omega) | assumption))); (focus (first | omega | (simp; done) | (simp; omega) | assumption)); (focus exact WfF.out.ones); (focus (repeat (first | (apply setRow_eq_at; (focus (simp; done))) | (refine setRow_eq_past ?_ ?_; (focus (first | (simp; done) | omega | (simp; omega)))) | apply setRow_eq_drewN | apply setRow_eq_drew | rfl))); (try go_frame)))
      ((with_reducible apply l_ret2); (focus rfl); (focus rfl); (focus rfl); (focus (repeat (first | assumption | (apply Blk.newAt; (focus (simp; done))) | apply Blk.alloc | apply Blk.setRow | apply Blk.drewN | apply Blk.drew | (refine Blk.setRow_other ?_ ?_ _; focus (first | omega | (simp; omega)))))); (focus exact Try.underlying49); (focus rfl); (focus exact szState); (focus (first | exact omega | (first | omega | (simp; done) | (simp; omega) | assumption))); (focus rfl))
      have hMo := hM.out
      have hfr : ∀ b, w1.heap.size ≤ b → b < w2.heap.size → (wr.setRow (w.heap.size + 1) cF).heap[b]? = w2.heap[b]? := fun b hb1 hb2 => (setRow_other _ _ _ _ (by omega)).trans (hMo.fr b hb1 hb2)
      have ho := HU.out.2.2.keep hfr
      exact ⟨cu, by rw [HEq.out]; rfl, HU.out.1, ho.isSt HU.out.2.1.wf HU.out.2.1, ho.base (by omega), below_setRow hMo.bel (by omega) _⟩
    · have hfin : finN cu c0 (s / 4) (0 + 1) = if runTo c0 1 3 = true ∧ cN cu 993 + 3 = s / 4 then patch (finN cu c0 (s / 4) 0) 1059 (oldK cu 0) else finN cu c0 (s / 4) 0 := rfl
      have wfk : WfC (finN cu c0 (s / 4) 0) := HU.out.2.1.wf.fin Wf0.out (s / 4) 0
      have hbit : ∀ i, 989 ≤ i → i < 993 → (finN cu c0 (s / 4) 0)[i]? = c0[i]? := fun i h1 h2 => fin_out HU.out.2.1.wf Wf0.out (s / 4) (by omega) 0
      rw [← runTo_congr hbit 1 3 (by omega)] at hfin
      have HF := Lib.hid hfin
      have Wfk := Lib.hid wfk
      clear hfin wfk hbit
      generalize finN cu c0 (s / 4) 0 = c at *
      have hs1 : 1957 ≤ c.size := Nat.le_of_eq Wfk.out.size.symm
      have hs2 : c.size ≤ 1957 := Nat.le_of_eq Wfk.out.size
      have hcell := hM.out.blk.cell
      have hfz := hM.out.blk.frozen
      have HW := Lib.hid W16.out.1
      obtain ⟨V, hV⟩ : ∃ V, V = int4 1 4 0 3 := ⟨_, rfl⟩
      have hV0 : V[0]? = some (.int .i64 1) := by rw [hV]; rfl
      have hV1 : V[1]? = some (.int .i64 4) := by rw [hV]; rfl
      have hV2 : V[2]? = some (.int .i64 0) := by rw [hV]; rfl
      have hV3 : V[3]? = some (.int .i64 3) := by rw [hV]; rfl
      have hVo : Hid (V.all (·.oneCell') = true) := Lib.hid (by rw [hV]; simp [int4, Value.oneCell'])
      have hVs : Hid (V.size = 4) := Lib.hid (by rw [hV]; rfl)
      rw [← hV] at HW
      clear hV
      go_wp2_with (first | (((with_reducible apply l_index 73); (focus rfl); (focus rfl); (focus exact Try.underlying73); (focus exact Try.underlying72); (focus rfl); (focus exact szInt4); (focus (first | omega | (simp; omega) | decide)); (try go_frame))) | (((with_reducible apply l_alloc 72); (focus kernel_rfl); (try go_frame)); (try simp only [Int.toNat_natCast, Nat.zero_mul, Nat.zero_add, HW.out])) | ((with_reducible apply l_storew 72); (focus rfl); (focus rfl); (focus (repeat (first | assumption | (apply Blk.newAt; (focus (simp; done))) | apply Blk.alloc | apply Blk.setRow | apply Blk.drewN | apply Blk.drew | (refine Blk.setRow_other ?_ ?_ _; focus (first | omega | (simp; omega)))))); (focus exact szInt4); (focus (first | exact hVs.out | (first | omega | (simp; done) | (simp; omega) | assumption))); (focus (first | omega | (simp; done) | (simp; omega) | assumption)); (focus exact hVo.out); (focus (repeat (first | (apply setRow_eq_at; (focus (simp; done))) | (refine setRow_eq_past ?_ ?_; (focus (first | (simp; done) | omega | (simp; omega)))) | apply setRow_eq_drewN | apply setRow_eq_drew | rfl))); (try go_frame)))
      obtain ⟨wq, hwq⟩ : ∃ wq : World, wq = wr.alloc (.cells V 72) := ⟨_, rfl⟩
      have hMq := Lib.hid (hM.out.alloc (by omega) (.cells V 72))
      have hKq := Lib.hid (hK.out.alloc (.cells V 72))
      have hVb := Lib.hid (Blk.new wr 72 V)
      have hgq : wr.heap.size < wq.heap.size := by rw [hwq, World.size_alloc]; omega
      rw [← hwq] at hMq hKq hVb
      rw [← hwq]
      clear hwq hcell hfz
      have hcell := hMq.out.blk.cell
      have hvc := hVb.out.cell
      go_loop [91, 14] (fun i r => ∃ m : Nat, m ≤ 3 ∧ i = .int .i64 m ∧ r = .bool (runTo c 1 m)) (fun i _ => 3 - (intOf i).toNat)
      case atStart => exact ⟨0, by omega, rfl, rfl⟩
      case round =>
        obtain ⟨m, hm, rfl, rfl⟩ := hrel
        by_cases hlt : m < 3
        · have hbt := Wfk.out.bool (990 + m) (ck_bit (by omega) (by omega)) (by omega)
          have hnx : Hid (runTo c 1 (m + 1) = (runTo c 1 m && cB c (990 + m))) := Lib.hid (by simp only [runTo])
          generalize runTo c 1 m = r0 at *
          generalize cB c (990 + m) = bt at *
          cases r0
          · go_wp2
            go_round
            case rel => exact ⟨m + 1, by omega, by go_num, by rw [hnx.out]; rfl⟩
            case measure => simp [intOf]; omega
          · go_wp2
            go_round
            case rel => exact ⟨m + 1, by omega, by go_num, by rw [hnx.out]; rfl⟩
            case measure => simp [intOf]; omega
        · obtain rfl : m = 3 := by omega
          generalize hrun : runTo c 1 3 = run at *
          have HR := Lib.hid hrun
          clear hrun hlt hm
          have hb11 := hKq.out
          have hos : 66 ≤ OA.size := Nat.le_of_eq hS2.out.symm
          have hexv : Hid (OA.extract 0 (0 + 33) = oldK cu 0) := Lib.hid (by rw [HOA.out]; exact old2_part hu1 (k := 0) (by decide))
          obtain ⟨E, hE⟩ : ∃ E, E = oldK cu 0 := ⟨_, rfl⟩
          have hE0 : E[0]? = some (.int .u64 (cN cu 993)) := by
            rw [hE]; unfold oldK
            rw [Array.getElem?_extract, if_pos (by omega)]
            exact (HU.out.2.1.wf.u64 993 rfl).1
          have hEo : Hid (E.all (·.oneCell') = true) := Lib.hid (by rw [hE]; exact ones_extract HO.out _ _)
          have hEs : Hid (E.size = 33) := Lib.hid (by rw [hE]; exact size_oldK hu1 (by decide))
          rw [← hE] at hexv HF
          clear hE
          obtain ⟨hw0, hw1⟩ := (HU.out.2.1.wf.u64 993 rfl).2
          have hw2 : cN cu 993 ≤ s / 4 := by
            have e : cN cu 993 = cN cs 993 := by unfold cN; rw [HU.out.1 993 (by decide)]
            rw [e, ← Hs.out]
            exact (rightB_iff.1 R.out).old
          generalize cN cu 993 = ep0 at *
          go_upto_region 23 with (first | ((with_reducible apply l_load 42); (focus rfl); (focus (repeat (first | assumption | (apply Blk.newAt; (focus (simp; done))) | apply Blk.alloc | apply Blk.setRow | apply Blk.drewN | apply Blk.drew | (refine Blk.setRow_other ?_ ?_ _; focus (first | omega | (simp; omega)))))); (focus exact Try.underlying42); (focus rfl); (focus exact szCheck); (focus (first | omega | (simp; done) | (simp; omega) | assumption)); (try go_frame)) | (((with_reducible apply l_alloc 42); (focus kernel_rfl); (try go_frame)); (try simp only [hexv.out])) | ((with_reducible apply l_storew 42); (focus rfl); (focus rfl); (focus (repeat (first | assumption | (apply Blk.newAt; (focus (simp; done))) | apply Blk.alloc | apply Blk.setRow | apply Blk.drewN | apply Blk.drew | (refine Blk.setRow_other ?_ ?_ _; focus (first | omega | (simp; omega)))))); (focus exact szCheck); (focus (first | exact hEs.out | (first | omega | (simp; done) | (simp; omega) | assumption))); (focus (first | omega | (simp; done) | (simp; omega) | assumption)); (focus exact hEo.out); (focus (repeat (first | (apply setRow_eq_at; (focus (simp; done))) | (refine setRow_eq_past ?_ ?_; (focus (first | (simp; done) | omega | (simp; omega)))) | apply setRow_eq_drewN | apply setRow_eq_drew | rfl))); (try go_frame)))
          obtain ⟨wz, hwz⟩ : ∃ wz : World, wz = wq.alloc (.cells E 42) := ⟨_, rfl⟩
          have hMz := Lib.hid (hMq.out.alloc (by omega) (.cells E 42))
          have hKz := Lib.hid (hKq.out.alloc (.cells E 42))
          have hVz := (hVb.out.alloc (.cells E 42)).cell
          have hEz := Blk.new wq 42 E
          have hgz : wq.heap.size < wz.heap.size := by rw [hwz, World.size_alloc]; omega
          rw [← hwz] at hMz hKz hVz hEz
          rw [← hwz]
          clear hwz hcell hvc hb11 hMq hKq hVb hos
          have hez := hEz.cell
          cases run
          · have hc' : Hid (finN cu c0 (s / 4) (0 + 1) = c) := Lib.hid (by rw [HF.out, if_neg (by simp)])
            go_wp2_with fail
            go_roundw
            case rel => exact ⟨0 + 1, by omega, by go_num, Lib.hid (by rw [hc'.out]; exact hMz.out), hKz, by omega⟩
            case measure => simp [intOf]
          · by_cases hq : ep0 + 3 = s / 4
            · have hc' : Hid (finN cu c0 (s / 4) (0 + 1) = patch c 1059 E) := Lib.hid (by rw [HF.out, if_pos ⟨rfl, hq⟩])
              have hqt : ((ep0 + 3 : Int) == s / 4) = true := by rw [hq]; exact beq_self_eq_true _
              have hblk := hMz.out.blk
              clear hq
              go_wp2_with (first | ((with_reducible apply l_loadw 42); (focus rfl); (focus (repeat (first | assumption | (apply Blk.newAt; (focus (simp; done))) | apply Blk.alloc | apply Blk.setRow | apply Blk.drewN | apply Blk.drew | (refine Blk.setRow_other ?_ ?_ _; focus (first | omega | (simp; omega)))))); (focus exact Try.underlying42); (focus rfl); (focus exact szCheck); (focus (first | exact hEs.out | (first | omega | (simp; done) | (simp; omega) | assumption))); (try go_frame)) | ((with_reducible apply l_store 42); (focus rfl); (focus rfl); (focus (repeat (first | assumption | (apply Blk.newAt; (focus (simp; done))) | apply Blk.alloc | apply Blk.setRow | apply Blk.drewN | apply Blk.drew | (refine Blk.setRow_other ?_ ?_ _; focus (first | omega | (simp; omega)))))); (focus exact szCheck); (focus (first | exact hEs.out | (first | omega | (simp; done) | (simp; omega) | assumption))); (focus (first | omega | (simp; done) | (simp; omega) | assumption)); (focus exact hEo.out); (focus (repeat (first | (apply setRow_eq_at; (focus (simp; done))) | (refine setRow_eq_past ?_ ?_; (focus (first | (simp; done) | omega | (simp; omega)))) | apply setRow_eq_drewN | apply setRow_eq_drew | rfl))); (try go_frame)))
              go_roundw
              case rel => exact ⟨0 + 1, by omega, by go_num, Lib.hid (by rw [hc'.out]; exact hMz.out.set (by omega) _), Lib.hid (hKz.out.setRow_other (by omega) _), by rw [size_setRow]; omega⟩
              case measure => simp [intOf]
            · have hc' : Hid (finN cu c0 (s / 4) (0 + 1) = c) := Lib.hid (by rw [HF.out, if_neg (fun h => hq h.2)])
              have hqt : ((ep0 + 3 : Int) == s / 4) = false := beq_eq_false_iff_ne.2 hq
              clear hq
              go_wp2_with fail
              go_roundw
              case rel => exact ⟨0 + 1, by omega, by go_num, Lib.hid (by rw [hc'.out]; exact hMz.out), hKz, by omega⟩
              case measure => simp [intOf]
    · have hfin : finN cu c0 (s / 4) (1 + 1) = if runTo c0 1 2 = true ∧ cN cu 993 + 2 = s / 4 then patch (finN cu c0 (s / 4) 1) 1059 (oldK cu 0) else finN cu c0 (s / 4) 1 := rfl
      have wfk : WfC (finN cu c0 (s / 4) 1) := HU.out.2.1.wf.fin Wf0.out (s / 4) 1
      have hbit : ∀ i, 989 ≤ i → i < 993 → (finN cu c0 (s / 4) 1)[i]? = c0[i]? := fun i h1 h2 => fin_out HU.out.2.1.wf Wf0.out (s / 4) (by omega) 1
      rw [← runTo_congr hbit 1 2 (by omega)] at hfin
      have HF := Lib.hid hfin
      have Wfk := Lib.hid wfk
      clear hfin wfk hbit
      generalize finN cu c0 (s / 4) 1 = c at *
      have hs1 : 1957 ≤ c.size := Nat.le_of_eq Wfk.out.size.symm
      have hs2 : c.size ≤ 1957 := Nat.le_of_eq Wfk.out.size
      have hcell := hM.out.blk.cell
      have hfz := hM.out.blk.frozen
      have HW := Lib.hid W16.out.2.1
      obtain ⟨V, hV⟩ : ∃ V, V = int4 1 3 0 2 := ⟨_, rfl⟩
      have hV0 : V[0]? = some (.int .i64 1) := by rw [hV]; rfl
      have hV1 : V[1]? = some (.int .i64 3) := by rw [hV]; rfl
      have hV2 : V[2]? = some (.int .i64 0) := by rw [hV]; rfl
      have hV3 : V[3]? = some (.int .i64 2) := by rw [hV]; rfl
      have hVo : Hid (V.all (·.oneCell') = true) := Lib.hid (by rw [hV]; simp [int4, Value.oneCell'])
      have hVs : Hid (V.size = 4) := Lib.hid (by rw [hV]; rfl)
      rw [← hV] at HW
      clear hV
      go_wp2_with (first | (((with_reducible apply l_index 73); (focus rfl); (focus rfl); (focus exact Try.underlying73); (focus exact Try.underlying72); (focus rfl); (focus exact szInt4); (focus (first | omega | (simp; omega) | decide)); (try go_frame))) | (((with_reducible apply l_alloc 72); (focus kernel_rfl); (try go_frame)); (try simp only [Int.toNat_natCast, HW.out])) | ((with_reducible apply l_storew 72); (focus rfl); (focus rfl); (focus (repeat (first | assumption | (apply Blk.newAt; (focus (simp; done))) | apply Blk.alloc | apply Blk.setRow | apply Blk.drewN | apply Blk.drew | (refine Blk.setRow_other ?_ ?_ _; focus (first | omega | (simp; omega)))))); (focus exact szInt4); (focus (first | exact hVs.out | (first | omega | (simp; done) | (simp; omega) | assumption))); (focus (first | omega | (simp; done) | (simp; omega) | assumption)); (focus exact hVo.out); (focus (repeat (first | (apply setRow_eq_at; (focus (simp; done))) | (refine setRow_eq_past ?_ ?_; (focus (first | (simp; done) | omega | (simp; omega)))) | apply setRow_eq_drewN | apply setRow_eq_drew | rfl))); (try go_frame)))
      obtain ⟨wq, hwq⟩ : ∃ wq : World, wq = wr.alloc (.cells V 72) := ⟨_, rfl⟩
      have hMq := Lib.hid (hM.out.alloc (by omega) (.cells V 72))
      have hKq := Lib.hid (hK.out.alloc (.cells V 72))
      have hVb := Lib.hid (Blk.new wr 72 V)
      have hgq : wr.heap.size < wq.heap.size := by rw [hwq, World.size_alloc]; omega
      rw [← hwq] at hMq hKq hVb
      rw [← hwq]
      clear hwq hcell hfz
      have hcell := hMq.out.blk.cell
      have hvc := hVb.out.cell
      go_loop [91, 14] (fun i r => ∃ m : Nat, m ≤ 2 ∧ i = .int .i64 m ∧ r = .bool (runTo c 1 m)) (fun i _ => 2 - (intOf i).toNat)
      case atStart => exact ⟨0, by omega, rfl, rfl⟩
      case round =>
        obtain ⟨m, hm, rfl, rfl⟩ := hrel
        by_cases hlt : m < 2
        · have hbt := Wfk.out.bool (990 + m) (ck_bit (by omega) (by omega)) (by omega)
          have hnx : Hid (runTo c 1 (m + 1) = (runTo c 1 m && cB c (990 + m))) := Lib.hid (by simp only [runTo])
          generalize runTo c 1 m = r0 at *
          generalize cB c (990 + m) = bt at *
          cases r0
          · go_wp2
            go_round
            case rel => exact ⟨m + 1, by omega, by go_num, by rw [hnx.out]; rfl⟩
            case measure => simp [intOf]; omega
          · go_wp2
            go_round
            case rel => exact ⟨m + 1, by omega, by go_num, by rw [hnx.out]; rfl⟩
            case measure => simp [intOf]; omega
        · obtain rfl : m = 2 := by omega
          generalize hrun : runTo c 1 2 = run at *
          have HR := Lib.hid hrun
          clear hrun hlt hm
          have hb11 := hKq.out
          have hos : 66 ≤ OA.size := Nat.le_of_eq hS2.out.symm
          have hexv : Hid (OA.extract 0 (0 + 33) = oldK cu 0) := Lib.hid (by rw [HOA.out]; exact old2_part hu1 (k := 0) (by decide))
          obtain ⟨E, hE⟩ : ∃ E, E = oldK cu 0 := ⟨_, rfl⟩
          have hE0 : E[0]? = some (.int .u64 (cN cu 993)) := by
            rw [hE]; unfold oldK
            rw [Array.getElem?_extract, if_pos (by omega)]
            exact (HU.out.2.1.wf.u64 993 rfl).1
          have hEo : Hid (E.all (·.oneCell') = true) := Lib.hid (by rw [hE]; exact ones_extract HO.out _ _)
          have hEs : Hid (E.size = 33) := Lib.hid (by rw [hE]; exact size_oldK hu1 (by decide))
          rw [← hE] at hexv HF
          clear hE
          obtain ⟨hw0, hw1⟩ := (HU.out.2.1.wf.u64 993 rfl).2
          have hw2 : cN cu 993 ≤ s / 4 := by
            have e : cN cu 993 = cN cs 993 := by unfold cN; rw [HU.out.1 993 (by decide)]
            rw [e, ← Hs.out]
            exact (rightB_iff.1 R.out).old
          generalize cN cu 993 = ep0 at *
          go_upto_region 23 with (first | ((with_reducible apply l_load 42); (focus rfl); (focus (repeat (first | assumption | (apply Blk.newAt; (focus (simp; done))) | apply Blk.alloc | apply Blk.setRow | apply Blk.drewN | apply Blk.drew | (refine Blk.setRow_other ?_ ?_ _; focus (first | omega | (simp; omega)))))); (focus exact Try.underlying42); (focus rfl); (focus exact szCheck); (focus (first | omega | (simp; done) | (simp; omega) | assumption)); (try go_frame)) | (((with_reducible apply l_alloc 42); (focus kernel_rfl); (try go_frame)); (try simp only [hexv.out])) | ((with_reducible apply l_storew 42); (focus rfl); (focus rfl); (focus (repeat (first | assumption | (apply Blk.newAt; (focus (simp; done))) | apply Blk.alloc | apply Blk.setRow | apply Blk.drewN | apply Blk.drew | (refine Blk.setRow_other ?_ ?_ _; focus (first | omega | (simp; omega)))))); (focus exact szCheck); (focus (first | exact hEs.out | (first | omega | (simp; done) | (simp; omega) | assumption))); (focus (first | omega | (simp; done) | (simp; omega) | assumption)); (focus exact hEo.out); (focus (repeat (first | (apply setRow_eq_at; (focus (simp; done))) | (refine setRow_eq_past ?_ ?_; (focus (first | (simp; done) | omega | (simp; omega)))) | apply setRow_eq_drewN | apply setRow_eq_drew | rfl))); (try go_frame)))
          obtain ⟨wz, hwz⟩ : ∃ wz : World, wz = wq.alloc (.cells E 42) := ⟨_, rfl⟩
          have hMz := Lib.hid (hMq.out.alloc (by omega) (.cells E 42))
          have hKz := Lib.hid (hKq.out.alloc (.cells E 42))
          have hVz := (hVb.out.alloc (.cells E 42)).cell
          have hEz := Blk.new wq 42 E
          have hgz : wq.heap.size < wz.heap.size := by rw [hwz, World.size_alloc]; omega
          rw [← hwz] at hMz hKz hVz hEz
          rw [← hwz]
          clear hwz hcell hvc hb11 hMq hKq hVb hos
          have hez := hEz.cell
          cases run
          · have hc' : Hid (finN cu c0 (s / 4) (1 + 1) = c) := Lib.hid (by rw [HF.out, if_neg (by simp)])
            go_wp2_with fail
            go_roundw
            case rel => exact ⟨1 + 1, by omega, by go_num, Lib.hid (by rw [hc'.out]; exact hMz.out), hKz, by omega⟩
            case measure => simp [intOf]
          · by_cases hq : ep0 + 2 = s / 4
            · have hc' : Hid (finN cu c0 (s / 4) (1 + 1) = patch c 1059 E) := Lib.hid (by rw [HF.out, if_pos ⟨rfl, hq⟩])
              have hqt : ((ep0 + 2 : Int) == s / 4) = true := by rw [hq]; exact beq_self_eq_true _
              have hblk := hMz.out.blk
              clear hq
              go_wp2_with (first | ((with_reducible apply l_loadw 42); (focus rfl); (focus (repeat (first | assumption | (apply Blk.newAt; (focus (simp; done))) | apply Blk.alloc | apply Blk.setRow | apply Blk.drewN | apply Blk.drew | (refine Blk.setRow_other ?_ ?_ _; focus (first | omega | (simp; omega)))))); (focus exact Try.underlying42); (focus rfl); (focus exact szCheck); (focus (first | exact hEs.out | (first | omega | (simp; done) | (simp; omega) | assumption))); (try go_frame)) | ((with_reducible apply l_store 42); (focus rfl); (focus rfl); (focus (repeat (first | assumption | (apply Blk.newAt; (focus (simp; done))) | apply Blk.alloc | apply Blk.setRow | apply Blk.drewN | apply Blk.drew | (refine Blk.setRow_other ?_ ?_ _; focus (first | omega | (simp; omega)))))); (focus exact szCheck); (focus (first | exact hEs.out | (first | omega | (simp; done) | (simp; omega) | assumption))); (focus (first | omega | (simp; done) | (simp; omega) | assumption)); (focus exact hEo.out); (focus (repeat (first | (apply setRow_eq_at; (focus (simp; done))) | (refine setRow_eq_past ?_ ?_; (focus (first | (simp; done) | omega | (simp; omega)))) | apply setRow_eq_drewN | apply setRow_eq_drew | rfl))); (try go_frame)))
              go_roundw
              case rel => exact ⟨1 + 1, by omega, by go_num, Lib.hid (by rw [hc'.out]; exact hMz.out.set (by omega) _), Lib.hid (hKz.out.setRow_other (by omega) _), by rw [size_setRow]; omega⟩
              case measure => simp [intOf]
            · have hc' : Hid (finN cu c0 (s / 4) (1 + 1) = c) := Lib.hid (by rw [HF.out, if_neg (fun h => hq h.2)])
              have hqt : ((ep0 + 2 : Int) == s / 4) = false := beq_eq_false_iff_ne.2 hq
              clear hq
              go_wp2_with fail
              go_roundw
              case rel => exact ⟨1 + 1, by omega, by go_num, Lib.hid (by rw [hc'.out]; exact hMz.out), hKz, by omega⟩
              case measure => simp [intOf]
    · have hfin : finN cu c0 (s / 4) (2 + 1) = if runTo c0 0 3 = true ∧ cN cu 1026 + 2 = s / 4 then patch (finN cu c0 (s / 4) 2) 1059 (oldK cu 1) else finN cu c0 (s / 4) 2 := rfl
      have wfk : WfC (finN cu c0 (s / 4) 2) := HU.out.2.1.wf.fin Wf0.out (s / 4) 2
      have hbit : ∀ i, 989 ≤ i → i < 993 → (finN cu c0 (s / 4) 2)[i]? = c0[i]? := fun i h1 h2 => fin_out HU.out.2.1.wf Wf0.out (s / 4) (by omega) 2
      rw [← runTo_congr hbit 0 3 (by omega)] at hfin
      have HF := Lib.hid hfin
      have Wfk := Lib.hid wfk
      clear hfin wfk hbit
      generalize finN cu c0 (s / 4) 2 = c at *
      have hs1 : 1957 ≤ c.size := Nat.le_of_eq Wfk.out.size.symm
      have hs2 : c.size ≤ 1957 := Nat.le_of_eq Wfk.out.size
      have hcell := hM.out.blk.cell
      have hfz := hM.out.blk.frozen
      have HW := Lib.hid W16.out.2.2.1
      obtain ⟨V, hV⟩ : ∃ V, V = int4 0 3 1 2 := ⟨_, rfl⟩
      have hV0 : V[0]? = some (.int .i64 0) := by rw [hV]; rfl
      have hV1 : V[1]? = some (.int .i64 3) := by rw [hV]; rfl
      have hV2 : V[2]? = some (.int .i64 1) := by rw [hV]; rfl
      have hV3 : V[3]? = some (.int .i64 2) := by rw [hV]; rfl
      have hVo : Hid (V.all (·.oneCell') = true) := Lib.hid (by rw [hV]; simp [int4, Value.oneCell'])
      have hVs : Hid (V.size = 4) := Lib.hid (by rw [hV]; rfl)
      rw [← hV] at HW
      clear hV
      go_wp2_with (first | (((with_reducible apply l_index 73); (focus rfl); (focus rfl); (focus exact Try.underlying73); (focus exact Try.underlying72); (focus rfl); (focus exact szInt4); (focus (first | omega | (simp; omega) | decide)); (try go_frame))) | (((with_reducible apply l_alloc 72); (focus kernel_rfl); (try go_frame)); (try simp only [Int.toNat_natCast, HW.out])) | ((with_reducible apply l_storew 72); (focus rfl); (focus rfl); (focus (repeat (first | assumption | (apply Blk.newAt; (focus (simp; done))) | apply Blk.alloc | apply Blk.setRow | apply Blk.drewN | apply Blk.drew | (refine Blk.setRow_other ?_ ?_ _; focus (first | omega | (simp; omega)))))); (focus exact szInt4); (focus (first | exact hVs.out | (first | omega | (simp; done) | (simp; omega) | assumption))); (focus (first | omega | (simp; done) | (simp; omega) | assumption)); (focus exact hVo.out); (focus (repeat (first | (apply setRow_eq_at; (focus (simp; done))) | (refine setRow_eq_past ?_ ?_; (focus (first | (simp; done) | omega | (simp; omega)))) | apply setRow_eq_drewN | apply setRow_eq_drew | rfl))); (try go_frame)))
      obtain ⟨wq, hwq⟩ : ∃ wq : World, wq = wr.alloc (.cells V 72) := ⟨_, rfl⟩
      have hMq := Lib.hid (hM.out.alloc (by omega) (.cells V 72))
      have hKq := Lib.hid (hK.out.alloc (.cells V 72))
      have hVb := Lib.hid (Blk.new wr 72 V)
      have hgq : wr.heap.size < wq.heap.size := by rw [hwq, World.size_alloc]; omega
      rw [← hwq] at hMq hKq hVb
      rw [← hwq]
      clear hwq hcell hfz
      have hcell := hMq.out.blk.cell
      have hvc := hVb.out.cell
      go_loop [91, 14] (fun i r => ∃ m : Nat, m ≤ 3 ∧ i = .int .i64 m ∧ r = .bool (runTo c 0 m)) (fun i _ => 3 - (intOf i).toNat)
      case atStart => exact ⟨0, by omega, rfl, rfl⟩
      case round =>
        obtain ⟨m, hm, rfl, rfl⟩ := hrel
        by_cases hlt : m < 3
        · have hbt := Wfk.out.bool (989 + m) (ck_bit (by omega) (by omega)) (by omega)
          have hnx : Hid (runTo c 0 (m + 1) = (runTo c 0 m && cB c (989 + m))) := Lib.hid (by simp only [runTo])
          generalize runTo c 0 m = r0 at *
          generalize cB c (989 + m) = bt at *
          cases r0
          · go_wp2
            go_round
            case rel => exact ⟨m + 1, by omega, by go_num, by rw [hnx.out]; rfl⟩
            case measure => simp [intOf]; omega
          · go_wp2
            go_round
            case rel => exact ⟨m + 1, by omega, by go_num, by rw [hnx.out]; rfl⟩
            case measure => simp [intOf]; omega
        · obtain rfl : m = 3 := by omega
          generalize hrun : runTo c 0 3 = run at *
          have HR := Lib.hid hrun
          clear hrun hlt hm
          have hb11 := hKq.out
          have hos : 66 ≤ OA.size := Nat.le_of_eq hS2.out.symm
          have hexv : Hid (OA.extract 33 (33 + 33) = oldK cu 1) := Lib.hid (by rw [HOA.out]; exact old2_part hu1 (k := 1) (by decide))
          obtain ⟨E, hE⟩ : ∃ E, E = oldK cu 1 := ⟨_, rfl⟩
          have hE0 : E[0]? = some (.int .u64 (cN cu 1026)) := by
            rw [hE]; unfold oldK
            rw [Array.getElem?_extract, if_pos (by omega)]
            exact (HU.out.2.1.wf.u64 1026 rfl).1
          have hEo : Hid (E.all (·.oneCell') = true) := Lib.hid (by rw [hE]; exact ones_extract HO.out _ _)
          have hEs : Hid (E.size = 33) := Lib.hid (by rw [hE]; exact size_oldK hu1 (by decide))
          rw [← hE] at hexv HF
          clear hE
          obtain ⟨hw0, hw1⟩ := (HU.out.2.1.wf.u64 1026 rfl).2
          have hw2 : cN cu 1026 ≤ s / 4 := by
            have e : cN cu 1026 = cN cs 1026 := by unfold cN; rw [HU.out.1 1026 (by decide)]
            rw [e, ← Hs.out]
            exact (rightB_iff.1 R.out).just
          generalize cN cu 1026 = ep0 at *
          go_upto_region 23 with (first | ((with_reducible apply l_load 42); (focus rfl); (focus (repeat (first | assumption | (apply Blk.newAt; (focus (simp; done))) | apply Blk.alloc | apply Blk.setRow | apply Blk.drewN | apply Blk.drew | (refine Blk.setRow_other ?_ ?_ _; focus (first | omega | (simp; omega)))))); (focus exact Try.underlying42); (focus rfl); (focus exact szCheck); (focus (first | omega | (simp; done) | (simp; omega) | assumption)); (try go_frame)) | (((with_reducible apply l_alloc 42); (focus kernel_rfl); (try go_frame)); (try simp only [hexv.out])) | ((with_reducible apply l_storew 42); (focus rfl); (focus rfl); (focus (repeat (first | assumption | (apply Blk.newAt; (focus (simp; done))) | apply Blk.alloc | apply Blk.setRow | apply Blk.drewN | apply Blk.drew | (refine Blk.setRow_other ?_ ?_ _; focus (first | omega | (simp; omega)))))); (focus exact szCheck); (focus (first | exact hEs.out | (first | omega | (simp; done) | (simp; omega) | assumption))); (focus (first | omega | (simp; done) | (simp; omega) | assumption)); (focus exact hEo.out); (focus (repeat (first | (apply setRow_eq_at; (focus (simp; done))) | (refine setRow_eq_past ?_ ?_; (focus (first | (simp; done) | omega | (simp; omega)))) | apply setRow_eq_drewN | apply setRow_eq_drew | rfl))); (try go_frame)))
          obtain ⟨wz, hwz⟩ : ∃ wz : World, wz = wq.alloc (.cells E 42) := ⟨_, rfl⟩
          have hMz := Lib.hid (hMq.out.alloc (by omega) (.cells E 42))
          have hKz := Lib.hid (hKq.out.alloc (.cells E 42))
          have hVz := (hVb.out.alloc (.cells E 42)).cell
          have hEz := Blk.new wq 42 E
          have hgz : wq.heap.size < wz.heap.size := by rw [hwz, World.size_alloc]; omega
          rw [← hwz] at hMz hKz hVz hEz
          rw [← hwz]
          clear hwz hcell hvc hb11 hMq hKq hVb hos
          have hez := hEz.cell
          cases run
          · have hc' : Hid (finN cu c0 (s / 4) (2 + 1) = c) := Lib.hid (by rw [HF.out, if_neg (by simp)])
            go_wp2_with fail
            go_roundw
            case rel => exact ⟨2 + 1, by omega, by go_num, Lib.hid (by rw [hc'.out]; exact hMz.out), hKz, by omega⟩
            case measure => simp [intOf]
          · by_cases hq : ep0 + 2 = s / 4
            · have hc' : Hid (finN cu c0 (s / 4) (2 + 1) = patch c 1059 E) := Lib.hid (by rw [HF.out, if_pos ⟨rfl, hq⟩])
              have hqt : ((ep0 + 2 : Int) == s / 4) = true := by rw [hq]; exact beq_self_eq_true _
              have hblk := hMz.out.blk
              clear hq
              go_wp2_with (first | ((with_reducible apply l_loadw 42); (focus rfl); (focus (repeat (first | assumption | (apply Blk.newAt; (focus (simp; done))) | apply Blk.alloc | apply Blk.setRow | apply Blk.drewN | apply Blk.drew | (refine Blk.setRow_other ?_ ?_ _; focus (first | omega | (simp; omega)))))); (focus exact Try.underlying42); (focus rfl); (focus exact szCheck); (focus (first | exact hEs.out | (first | omega | (simp; done) | (simp; omega) | assumption))); (try go_frame)) | ((with_reducible apply l_store 42); (focus rfl); (focus rfl); (focus (repeat (first | assumption | (apply Blk.newAt; (focus (simp; done))) | apply Blk.alloc | apply Blk.setRow | apply Blk.drewN | apply Blk.drew | (refine Blk.setRow_other ?_ ?_ _; focus (first | omega | (simp; omega)))))); (focus exact szCheck); (focus (first | exact hEs.out | (first | omega | (simp; done) | (simp; omega) | assumption))); (focus (first | omega | (simp; done) | (simp; omega) | assumption)); (focus exact hEo.out); (focus (repeat (first | (apply setRow_eq_at; (focus (simp; done))) | (refine setRow_eq_past ?_ ?_; (focus (first | (simp; done) | omega | (simp; omega)))) | apply setRow_eq_drewN | apply setRow_eq_drew | rfl))); (try go_frame)))
              go_roundw
              case rel => exact ⟨2 + 1, by omega, by go_num, Lib.hid (by rw [hc'.out]; exact hMz.out.set (by omega) _), Lib.hid (hKz.out.setRow_other (by omega) _), by rw [size_setRow]; omega⟩
              case measure => simp [intOf]
            · have hc' : Hid (finN cu c0 (s / 4) (2 + 1) = c) := Lib.hid (by rw [HF.out, if_neg (fun h => hq h.2)])
              have hqt : ((ep0 + 2 : Int) == s / 4) = false := beq_eq_false_iff_ne.2 hq
              clear hq
              go_wp2_with fail
              go_roundw
              case rel => exact ⟨2 + 1, by omega, by go_num, Lib.hid (by rw [hc'.out]; exact hMz.out), hKz, by omega⟩
              case measure => simp [intOf]
    · have hfin : finN cu c0 (s / 4) (3 + 1) = if runTo c0 0 2 = true ∧ cN cu 1026 + 1 = s / 4 then patch (finN cu c0 (s / 4) 3) 1059 (oldK cu 1) else finN cu c0 (s / 4) 3 := rfl
      have wfk : WfC (finN cu c0 (s / 4) 3) := HU.out.2.1.wf.fin Wf0.out (s / 4) 3
      have hbit : ∀ i, 989 ≤ i → i < 993 → (finN cu c0 (s / 4) 3)[i]? = c0[i]? := fun i h1 h2 => fin_out HU.out.2.1.wf Wf0.out (s / 4) (by omega) 3
      rw [← runTo_congr hbit 0 2 (by omega)] at hfin
      have HF := Lib.hid hfin
      have Wfk := Lib.hid wfk
      clear hfin wfk hbit
      generalize finN cu c0 (s / 4) 3 = c at *
      have hs1 : 1957 ≤ c.size := Nat.le_of_eq Wfk.out.size.symm
      have hs2 : c.size ≤ 1957 := Nat.le_of_eq Wfk.out.size
      have hcell := hM.out.blk.cell
      have hfz := hM.out.blk.frozen
      have HW := Lib.hid W16.out.2.2.2
      obtain ⟨V, hV⟩ : ∃ V, V = int4 0 2 1 1 := ⟨_, rfl⟩
      have hV0 : V[0]? = some (.int .i64 0) := by rw [hV]; rfl
      have hV1 : V[1]? = some (.int .i64 2) := by rw [hV]; rfl
      have hV2 : V[2]? = some (.int .i64 1) := by rw [hV]; rfl
      have hV3 : V[3]? = some (.int .i64 1) := by rw [hV]; rfl
      have hVo : Hid (V.all (·.oneCell') = true) := Lib.hid (by rw [hV]; simp [int4, Value.oneCell'])
      have hVs : Hid (V.size = 4) := Lib.hid (by rw [hV]; rfl)
      rw [← hV] at HW
      clear hV
      go_wp2_with (first | (((with_reducible apply l_index 73); (focus rfl); (focus rfl); (focus exact Try.underlying73); (focus exact Try.underlying72); (focus rfl); (focus exact szInt4); (focus (first | omega | (simp; omega) | decide)); (try go_frame))) | (((with_reducible apply l_alloc 72); (focus kernel_rfl); (try go_frame)); (try simp only [Int.toNat_natCast, HW.out])) | ((with_reducible apply l_storew 72); (focus rfl); (focus rfl); (focus (repeat (first | assumption | (apply Blk.newAt; (focus (simp; done))) | apply Blk.alloc | apply Blk.setRow | apply Blk.drewN | apply Blk.drew | (refine Blk.setRow_other ?_ ?_ _; focus (first | omega | (simp; omega)))))); (focus exact szInt4); (focus (first | exact hVs.out | (first | omega | (simp; done) | (simp; omega) | assumption))); (focus (first | omega | (simp; done) | (simp; omega) | assumption)); (focus exact hVo.out); (focus (repeat (first | (apply setRow_eq_at; (focus (simp; done))) | (refine setRow_eq_past ?_ ?_; (focus (first | (simp; done) | omega | (simp; omega)))) | apply setRow_eq_drewN | apply setRow_eq_drew | rfl))); (try go_frame)))
      obtain ⟨wq, hwq⟩ : ∃ wq : World, wq = wr.alloc (.cells V 72) := ⟨_, rfl⟩
      have hMq := Lib.hid (hM.out.alloc (by omega) (.cells V 72))
      have hKq := Lib.hid (hK.out.alloc (.cells V 72))
      have hVb := Lib.hid (Blk.new wr 72 V)
      have hgq : wr.heap.size < wq.heap.size := by rw [hwq, World.size_alloc]; omega
      rw [← hwq] at hMq hKq hVb
      rw [← hwq]
      clear hwq hcell hfz
      have hcell := hMq.out.blk.cell
      have hvc := hVb.out.cell
      go_loop [91, 14] (fun i r => ∃ m : Nat, m ≤ 2 ∧ i = .int .i64 m ∧ r = .bool (runTo c 0 m)) (fun i _ => 2 - (intOf i).toNat)
      case atStart => exact ⟨0, by omega, rfl, rfl⟩
      case round =>
        obtain ⟨m, hm, rfl, rfl⟩ := hrel
        by_cases hlt : m < 2
        · have hbt := Wfk.out.bool (989 + m) (ck_bit (by omega) (by omega)) (by omega)
          have hnx : Hid (runTo c 0 (m + 1) = (runTo c 0 m && cB c (989 + m))) := Lib.hid (by simp only [runTo])
          generalize runTo c 0 m = r0 at *
          generalize cB c (989 + m) = bt at *
          cases r0
          · go_wp2
            go_round
            case rel => exact ⟨m + 1, by omega, by go_num, by rw [hnx.out]; rfl⟩
            case measure => simp [intOf]; omega
          · go_wp2
            go_round
            case rel => exact ⟨m + 1, by omega, by go_num, by rw [hnx.out]; rfl⟩
            case measure => simp [intOf]; omega
        · obtain rfl : m = 2 := by omega
          generalize hrun : runTo c 0 2 = run at *
          have HR := Lib.hid hrun
          clear hrun hlt hm
          have hb11 := hKq.out
          have hos : 66 ≤ OA.size := Nat.le_of_eq hS2.out.symm
          have hexv : Hid (OA.extract 33 (33 + 33) = oldK cu 1) := Lib.hid (by rw [HOA.out]; exact old2_part hu1 (k := 1) (by decide))
          obtain ⟨E, hE⟩ : ∃ E, E = oldK cu 1 := ⟨_, rfl⟩
          have hE0 : E[0]? = some (.int .u64 (cN cu 1026)) := by
            rw [hE]; unfold oldK
            rw [Array.getElem?_extract, if_pos (by omega)]
            exact (HU.out.2.1.wf.u64 1026 rfl).1
          have hEo : Hid (E.all (·.oneCell') = true) := Lib.hid (by rw [hE]; exact ones_extract HO.out _ _)
          have hEs : Hid (E.size = 33) := Lib.hid (by rw [hE]; exact size_oldK hu1 (by decide))
          rw [← hE] at hexv HF
          clear hE
          obtain ⟨hw0, hw1⟩ := (HU.out.2.1.wf.u64 1026 rfl).2
          have hw2 : cN cu 1026 ≤ s / 4 := by
            have e : cN cu 1026 = cN cs 1026 := by unfold cN; rw [HU.out.1 1026 (by decide)]
            rw [e, ← Hs.out]
            exact (rightB_iff.1 R.out).just
          generalize cN cu 1026 = ep0 at *
          go_upto_region 23 with (first | ((with_reducible apply l_load 42); (focus rfl); (focus (repeat (first | assumption | (apply Blk.newAt; (focus (simp; done))) | apply Blk.alloc | apply Blk.setRow | apply Blk.drewN | apply Blk.drew | (refine Blk.setRow_other ?_ ?_ _; focus (first | omega | (simp; omega)))))); (focus exact Try.underlying42); (focus rfl); (focus exact szCheck); (focus (first | omega | (simp; done) | (simp; omega) | assumption)); (try go_frame)) | (((with_reducible apply l_alloc 42); (focus kernel_rfl); (try go_frame)); (try simp only [hexv.out])) | ((with_reducible apply l_storew 42); (focus rfl); (focus rfl); (focus (repeat (first | assumption | (apply Blk.newAt; (focus (simp; done))) | apply Blk.alloc | apply Blk.setRow | apply Blk.drewN | apply Blk.drew | (refine Blk.setRow_other ?_ ?_ _; focus (first | omega | (simp; omega)))))); (focus exact szCheck); (focus (first | exact hEs.out | (first | omega | (simp; done) | (simp; omega) | assumption))); (focus (first | omega | (simp; done) | (simp; omega) | assumption)); (focus exact hEo.out); (focus (repeat (first | (apply setRow_eq_at; (focus (simp; done))) | (refine setRow_eq_past ?_ ?_; (focus (first | (simp; done) | omega | (simp; omega)))) | apply setRow_eq_drewN | apply setRow_eq_drew | rfl))); (try go_frame)))
          obtain ⟨wz, hwz⟩ : ∃ wz : World, wz = wq.alloc (.cells E 42) := ⟨_, rfl⟩
          have hMz := Lib.hid (hMq.out.alloc (by omega) (.cells E 42))
          have hKz := Lib.hid (hKq.out.alloc (.cells E 42))
          have hVz := (hVb.out.alloc (.cells E 42)).cell
          have hEz := Blk.new wq 42 E
          have hgz : wq.heap.size < wz.heap.size := by rw [hwz, World.size_alloc]; omega
          rw [← hwz] at hMz hKz hVz hEz
          rw [← hwz]
          clear hwz hcell hvc hb11 hMq hKq hVb hos
          have hez := hEz.cell
          cases run
          · have hc' : Hid (finN cu c0 (s / 4) (3 + 1) = c) := Lib.hid (by rw [HF.out, if_neg (by simp)])
            go_wp2_with fail
            go_roundw
            case rel => exact ⟨3 + 1, by omega, by go_num, Lib.hid (by rw [hc'.out]; exact hMz.out), hKz, by omega⟩
            case measure => simp [intOf]
          · by_cases hq : ep0 + 1 = s / 4
            · have hc' : Hid (finN cu c0 (s / 4) (3 + 1) = patch c 1059 E) := Lib.hid (by rw [HF.out, if_pos ⟨rfl, hq⟩])
              have hqt : ((ep0 + 1 : Int) == s / 4) = true := by rw [hq]; exact beq_self_eq_true _
              have hblk := hMz.out.blk
              clear hq
              go_wp2_with (first | ((with_reducible apply l_loadw 42); (focus rfl); (focus (repeat (first | assumption | (apply Blk.newAt; (focus (simp; done))) | apply Blk.alloc | apply Blk.setRow | apply Blk.drewN | apply Blk.drew | (refine Blk.setRow_other ?_ ?_ _; focus (first | omega | (simp; omega)))))); (focus exact Try.underlying42); (focus rfl); (focus exact szCheck); (focus (first | exact hEs.out | (first | omega | (simp; done) | (simp; omega) | assumption))); (try go_frame)) | ((with_reducible apply l_store 42); (focus rfl); (focus rfl); (focus (repeat (first | assumption | (apply Blk.newAt; (focus (simp; done))) | apply Blk.alloc | apply Blk.setRow | apply Blk.drewN | apply Blk.drew | (refine Blk.setRow_other ?_ ?_ _; focus (first | omega | (simp; omega)))))); (focus exact szCheck); (focus (first | exact hEs.out | (first | omega | (simp; done) | (simp; omega) | assumption))); (focus (first | omega | (simp; done) | (simp; omega) | assumption)); (focus exact hEo.out); (focus (repeat (first | (apply setRow_eq_at; (focus (simp; done))) | (refine setRow_eq_past ?_ ?_; (focus (first | (simp; done) | omega | (simp; omega)))) | apply setRow_eq_drewN | apply setRow_eq_drew | rfl))); (try go_frame)))
              go_roundw
              case rel => exact ⟨3 + 1, by omega, by go_num, Lib.hid (by rw [hc'.out]; exact hMz.out.set (by omega) _), Lib.hid (hKz.out.setRow_other (by omega) _), by rw [size_setRow]; omega⟩
              case measure => simp [intOf]
            · have hc' : Hid (finN cu c0 (s / 4) (3 + 1) = c) := Lib.hid (by rw [HF.out, if_neg (fun h => hq h.2)])
              have hqt : ((ep0 + 1 : Int) == s / 4) = false := beq_eq_false_iff_ne.2 hq
              clear hq
              go_wp2_with fail
              go_roundw
              case rel => exact ⟨3 + 1, by omega, by go_num, Lib.hid (by rw [hc'.out]; exact hMz.out), hKz, by omega⟩
              case measure => simp [intOf]

end Go.Proofs.Ytikbkcidalippaa
