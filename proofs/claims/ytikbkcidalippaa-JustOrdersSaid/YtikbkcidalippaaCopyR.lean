/-
  pharosref10.Copy: a state's copy: its seven slices in new memory.
-/
import Derived.Test.YtikbkcidalippaaClone
namespace Go.Proofs.Ytikbkcidalippaa
open Go.RowKit
attribute [local irreducible] Hid Blk
set_option maxRecDepth 100000

theorem copy_close {w0 W : World} {cs cu : Array Value} {L : Nat → List Value} {B base : Nat} (H : IsSt w0 B cs L) (z1 : 1957 ≤ cu.size) (z2 : cu.size ≤ 1957) (E : ∀ k, ¬ isSO k → cu[k]? = cs[k]?)
    {v653 v719 v721 v722 v1092 v987 v988 : Value} (y653 : cu[653]? = some v653) (y719 : cu[719]? = some v719) (y721 : cu[721]? = some v721) (y722 : cu[722]? = some v722) (y1092 : cu[1092]? = some v1092) (y987 : cu[987]? = some v987) (y988 : cu[988]? = some v988)
    {x s653 s719 s721 s722 s987 s988 s1092 : Nat} (hx : base ≤ x) (g653 : x ≤ s653) (g719 : s653 ≤ s719) (g721 : s719 ≤ s721) (g722 : s721 ≤ s722) (g987 : s722 ≤ s987) (g988 : s987 ≤ s988) (g1092 : s988 ≤ s1092)
    (P653 : Own1 W x s653 653 v653 L) (P719 : Own1 W s653 s719 719 v719 L) (P721 : Own1 W s719 s721 721 v721 L) (P722 : Own1 W s721 s722 722 v722 L) (P1092 : Own1 W s988 s1092 1092 v1092 L) (P987 : Own1 W s722 s987 987 v987 L) (P988 : Own1 W s987 s988 988 v988 L) :
    IsSt W W.heap.size cu L ∧ Owned W base cu L := by
  have key : ∀ k, isSO k → ∃ v lo hi, cu[k]? = some v ∧ base ≤ lo ∧ Own1 W lo hi k v L := by
    intro k hk
    rcases hk with rfl | rfl | rfl | rfl | rfl | rfl | rfl
    · exact ⟨_, _, _, y653, by omega, P653⟩
    · exact ⟨_, _, _, y719, by omega, P719⟩
    · exact ⟨_, _, _, y721, by omega, P721⟩
    · exact ⟨_, _, _, y722, by omega, P722⟩
    · exact ⟨_, _, _, y987, by omega, P987⟩
    · exact ⟨_, _, _, y988, by omega, P988⟩
    · exact ⟨_, _, _, y1092, by omega, P1092⟩
  have sl : ∀ k, isSO k → ∃ a n c, cu[k]? = some (.slice a n c) ∧ SlR W W.heap.size (esz k) (eby k) a n c (L k) := by
    intro k hk
    obtain ⟨v, lo, hi, hv, hlo, P⟩ := key k hk
    obtain ⟨a0, n0, c0, -, hs⟩ := H.sl k hk
    obtain ⟨a, n, c, rfl, s⟩ := P.sl hs
    exact ⟨a, n, c, hv, s⟩
  refine ⟨⟨⟨Nat.le_antisymm z2 z1, ?_⟩, sl, H.el⟩, ?_, ?_⟩
  · intro i v hv
    by_cases hk : isSO i
    · obtain ⟨a, n, c, hs, -⟩ := sl i hk
      rw [hs] at hv
      obtain rfl := Option.some.inj hv
      rcases hk with rfl | rfl | rfl | rfl | rfl | rfl | rfl <;> trivial
    · rw [E i hk] at hv
      exact H.wf.kind i v hv
  · intro k hk
    obtain ⟨v, lo, hi, hv, hlo, P⟩ := key k hk
    obtain ⟨a, n, c, rfl, s⟩ := P.owned hlo
    exact ⟨a, n, c, hv, s⟩
  · have rk : ∀ k, isSO k → ∀ v b, cu[k]? = some v → v.ownBlock = some b → (k = 653 ∧ x ≤ b ∧ b < s653) ∨ (k = 719 ∧ s653 ≤ b ∧ b < s719) ∨ (k = 721 ∧ s719 ≤ b ∧ b < s721) ∨ (k = 722 ∧ s721 ≤ b ∧ b < s722) ∨ (k = 1092 ∧ s988 ≤ b ∧ b < s1092) ∨ (k = 987 ∧ s722 ≤ b ∧ b < s987) ∨ (k = 988 ∧ s987 ≤ b ∧ b < s988) := by
      intro k hk v b hv hb
      rcases hk with rfl | rfl | rfl | rfl | rfl | rfl | rfl
      · rw [y653] at hv; cases hv; have := P653.range hb; omega
      · rw [y719] at hv; cases hv; have := P719.range hb; omega
      · rw [y721] at hv; cases hv; have := P721.range hb; omega
      · rw [y722] at hv; cases hv; have := P722.range hb; omega
      · rw [y987] at hv; cases hv; have := P987.range hb; omega
      · rw [y988] at hv; cases hv; have := P988.range hb; omega
      · rw [y1092] at hv; cases hv; have := P1092.range hb; omega
    intro j k hj hk hne vj vk b ej ek h1 h2
    have r1 := rk j hj vj b ej h1
    have r2 := rk k hk vk b ek h2
    rcases r1 with ⟨_, _, _⟩ | ⟨_, _, _⟩ | ⟨_, _, _⟩ | ⟨_, _, _⟩ | ⟨_, _, _⟩ | ⟨_, _, _⟩ | ⟨_, _, _⟩ <;> rcases r2 with ⟨_, _, _⟩ | ⟨_, _, _⟩ | ⟨_, _, _⟩ | ⟨_, _, _⟩ | ⟨_, _, _⟩ | ⟨_, _, _⟩ | ⟨_, _, _⟩ <;> omega

theorem infRt : ∃ i0 z0, Try.prog.info? 24 = some i0 ∧ i0.zero = some z0 ∧ i0.size = 32 ∧ i0.bytes = 32 ∧ z0.cells.size = 32 := by
  obtain ⟨z0, hz⟩ : ∃ z0, ((Try.prog.info? 24).map (fun i => (i.zero, i.size, i.bytes)) = some (some z0, 32, 32)) ∧ z0.cells.size = 32 := ⟨((Try.prog.info? 24).bind (·.zero)).getD undef, by kernel_rfl, by kernel_rfl⟩
  obtain ⟨i0, hi, hz0, hz1, hz2⟩ := info_parts hz.1
  exact ⟨i0, z0, hi, hz0, hz1, hz2, hz.2⟩
theorem infE1 : ∃ i0 z0, Try.prog.info? 34 = some i0 ∧ i0.zero = some z0 ∧ i0.size = 65 ∧ i0.bytes = 72 ∧ z0.cells.size = 65 := by
  obtain ⟨z0, hz⟩ : ∃ z0, ((Try.prog.info? 34).map (fun i => (i.zero, i.size, i.bytes)) = some (some z0, 65, 72)) ∧ z0.cells.size = 65 := ⟨((Try.prog.info? 34).bind (·.zero)).getD undef, by kernel_rfl, by kernel_rfl⟩
  obtain ⟨i0, hi, hz0, hz1, hz2⟩ := info_parts hz.1
  exact ⟨i0, z0, hi, hz0, hz1, hz2, hz.2⟩
theorem infVl : ∃ i0 z0, Try.prog.info? 82 = some i0 ∧ i0.zero = some z0 ∧ i0.size = 86 ∧ i0.bytes = 128 ∧ z0.cells.size = 86 := by
  obtain ⟨z0, hz⟩ : ∃ z0, ((Try.prog.info? 82).map (fun i => (i.zero, i.size, i.bytes)) = some (some z0, 86, 128)) ∧ z0.cells.size = 86 := ⟨((Try.prog.info? 82).bind (·.zero)).getD undef, by kernel_rfl, by kernel_rfl⟩
  obtain ⟨i0, hi, hz0, hz1, hz2⟩ := info_parts hz.1
  exact ⟨i0, z0, hi, hz0, hz1, hz2, hz.2⟩
theorem infN8 : ∃ i0 z0, Try.prog.info? 22 = some i0 ∧ i0.zero = some z0 ∧ i0.size = 1 ∧ i0.bytes = 8 ∧ z0.cells.size = 1 := by
  obtain ⟨z0, hz⟩ : ∃ z0, ((Try.prog.info? 22).map (fun i => (i.zero, i.size, i.bytes)) = some (some z0, 1, 8)) ∧ z0.cells.size = 1 := ⟨((Try.prog.info? 22).bind (·.zero)).getD undef, by kernel_rfl, by kernel_rfl⟩
  obtain ⟨i0, hi, hz0, hz1, hz2⟩ := info_parts hz.1
  exact ⟨i0, z0, hi, hz0, hz1, hz2, hz.2⟩
theorem infB1 : ∃ i0 z0, Try.prog.info? 5 = some i0 ∧ i0.zero = some z0 ∧ i0.size = 1 ∧ i0.bytes = 1 ∧ z0.cells.size = 1 := by
  obtain ⟨z0, hz⟩ : ∃ z0, ((Try.prog.info? 5).map (fun i => (i.zero, i.size, i.bytes)) = some (some z0, 1, 1)) ∧ z0.cells.size = 1 := ⟨((Try.prog.info? 5).bind (·.zero)).getD undef, by kernel_rfl, by kernel_rfl⟩
  obtain ⟨i0, hi, hz0, hz1, hz2⟩ := info_parts hz.1
  exact ⟨i0, z0, hi, hz0, hz1, hz2, hz.2⟩

theorem own1_hi {w : World} {lo hi hi' k : Nat} {v : Value} {L : Nat → List Value} (h : Own1 w lo hi k v L) (hh : hi ≤ hi') : Own1 w lo hi' k v L := by
  obtain ⟨a, n, c, e, ho, hb⟩ := h
  exact ⟨a, n, c, e, ho, fun b hb' => by have := hb b hb'; omega⟩
set_option maxHeartbeats 20000000 in
theorem copy_any (cs : Array Value) (L : Nat → List Value) (B : Nat) (w : World) (hB : B ≤ w.heap.size) (h : IsSt w B cs L) :
    Calls Try.prog 9 #[.agg cs] w fun e w' => ∃ cs', e = .returned (.agg cs') ∧ (∀ i, ¬ isSO i → cs'[i]? = cs[i]?) ∧ IsSt w' w'.heap.size cs' L ∧ Owned w' w.heap.size cs' L ∧ Below w.heap.size w w' := by
  obtain ⟨A653, n653, k653, h653, s653⟩ := h.sl 653 (by decide)
  have S653 := Lib.hid s653
  have r653 : n653 * 32 ≤ 140737488351232 := s653.reach
  have T653 := Lib.hid h653
  clear s653 h653
  obtain ⟨A719, n719, k719, h719, s719⟩ := h.sl 719 (by decide)
  have S719 := Lib.hid s719
  have r719 : n719 * 72 ≤ 140737488351232 := s719.reach
  have T719 := Lib.hid h719
  clear s719 h719
  obtain ⟨A721, n721, k721, h721, s721⟩ := h.sl 721 (by decide)
  have S721 := Lib.hid s721
  have r721 : n721 * 128 ≤ 140737488351232 := s721.reach
  have T721 := Lib.hid h721
  clear s721 h721
  obtain ⟨A722, n722, k722, h722, s722⟩ := h.sl 722 (by decide)
  have S722 := Lib.hid s722
  have r722 : n722 * 8 ≤ 140737488351232 := s722.reach
  have T722 := Lib.hid h722
  clear s722 h722
  obtain ⟨A987, n987, k987, h987, s987⟩ := h.sl 987 (by decide)
  have S987 := Lib.hid s987
  have r987 : n987 * 1 ≤ 140737488351232 := s987.reach
  have T987 := Lib.hid h987
  clear s987 h987
  obtain ⟨A988, n988, k988, h988, s988⟩ := h.sl 988 (by decide)
  have S988 := Lib.hid s988
  have r988 : n988 * 1 ≤ 140737488351232 := s988.reach
  have T988 := Lib.hid h988
  clear s988 h988
  obtain ⟨A1092, n1092, k1092, h1092, s1092⟩ := h.sl 1092 (by decide)
  have S1092 := Lib.hid s1092
  have r1092 : n1092 * 8 ≤ 140737488351232 := s1092.reach
  have T1092 := Lib.hid h1092
  clear s1092 h1092
  obtain ⟨iRt, zRt, q1, q2, q3, q4, q5⟩ := infRt
  have HIRt := Lib.hid (And.intro q1 (And.intro q2 (And.intro q3 q4)))
  have HZRt := Lib.hid q5
  clear q1 q2 q3 q4 q5
  obtain ⟨iE1, zE1, q1, q2, q3, q4, q5⟩ := infE1
  have HIE1 := Lib.hid (And.intro q1 (And.intro q2 (And.intro q3 q4)))
  have HZE1 := Lib.hid q5
  clear q1 q2 q3 q4 q5
  obtain ⟨iVl, zVl, q1, q2, q3, q4, q5⟩ := infVl
  have HIVl := Lib.hid (And.intro q1 (And.intro q2 (And.intro q3 q4)))
  have HZVl := Lib.hid q5
  clear q1 q2 q3 q4 q5
  obtain ⟨iN8, zN8, q1, q2, q3, q4, q5⟩ := infN8
  have HIN8 := Lib.hid (And.intro q1 (And.intro q2 (And.intro q3 q4)))
  have HZN8 := Lib.hid q5
  clear q1 q2 q3 q4 q5
  obtain ⟨iB1, zB1, q1, q2, q3, q4, q5⟩ := infB1
  have HIB1 := Lib.hid (And.intro q1 (And.intro q2 (And.intro q3 q4)))
  have HZB1 := Lib.hid q5
  clear q1 q2 q3 q4 q5
  have one : ∀ k, isSO k → ∀ u ∈ L k, u.oneCell' = true := fun k hk u hu => by
    obtain ⟨j, hj, rfl⟩ := List.mem_iff_getElem.1 hu
    exact CK.ok_one (h.el k hk j _ (List.getElem?_eq_getElem hj))
  have One := Lib.hid one
  have H := Lib.hid h
  have hsz1 : 1957 ≤ cs.size := Nat.le_of_eq h.wf.size.symm
  have hsz2 : cs.size ≤ 1957 := Nat.le_of_eq h.wf.size
  clear h one
  go_enter Try.func9, Try.ntmps9
  go_upto_region 1 with (first | ((with_reducible apply l_alloc 49); (focus kernel_rfl); (try go_frame)) | fail)
  simp only [World.size_alloc]
  obtain ⟨wx, hwx⟩ : ∃ wx : World, wx = (w.alloc (.cells cs 49)).alloc (.cells (zc Try.prog 49) 49) := ⟨_, rfl⟩
  have D : Hid (Below w.heap.size w wx) := Lib.hid (by rw [hwx]; exact (by (repeat (first | exact Below.refl _ _ | apply Below.drew | apply below_drewN | (refine Below.alloc ?_ ?_ _) | (refine below_setRow ?_ ?_ _) | (refine Below.setCell ?_ ?_ _) | (refine Below.trans ?_ (Below.mono (by assumption) ?_)) | omega | (focus (simp; done)) | (focus (simp; omega))))))
  have K : Hid (Blk wx w.heap.size 49 cs) := Lib.hid (by rw [hwx]; exact (by (repeat (first | assumption | (apply Blk.newAt; (focus (simp; done))) | apply Blk.alloc | apply Blk.setRow | apply Blk.drewN | apply Blk.drew | (refine Blk.setRow_other ?_ ?_ _; focus (first | omega | (simp; omega)))))))
  have Kz : Hid (Blk wx (w.heap.size + 1) 49 (zc Try.prog 49)) := Lib.hid (by rw [hwx]; exact (by (repeat (first | assumption | (apply Blk.newAt; (focus (simp; done))) | apply Blk.alloc | apply Blk.setRow | apply Blk.drewN | apply Blk.drew | (refine Blk.setRow_other ?_ ?_ _; focus (first | omega | (simp; omega)))))))
  have hgx : w.heap.size + 2 ≤ wx.heap.size := by rw [hwx]; simp
  rw [← hwx]
  clear hwx
  obtain ⟨cx, hcx⟩ : ∃ cx, cx = cs := ⟨_, rfl⟩
  rw [← hcx] at K
  have Ex : Hid (∀ i, ¬ isSO i → cx[i]? = cs[i]?) := Lib.hid fun i _ => by rw [hcx]
  replace T653 : Hid (cx[653]? = some (.slice A653 n653 k653)) := Lib.hid (by rw [hcx]; exact T653.out)
  replace T719 : Hid (cx[719]? = some (.slice A719 n719 k719)) := Lib.hid (by rw [hcx]; exact T719.out)
  replace T721 : Hid (cx[721]? = some (.slice A721 n721 k721)) := Lib.hid (by rw [hcx]; exact T721.out)
  replace T722 : Hid (cx[722]? = some (.slice A722 n722 k722)) := Lib.hid (by rw [hcx]; exact T722.out)
  replace T987 : Hid (cx[987]? = some (.slice A987 n987 k987)) := Lib.hid (by rw [hcx]; exact T987.out)
  replace T988 : Hid (cx[988]? = some (.slice A988 n988 k988)) := Lib.hid (by rw [hcx]; exact T988.out)
  replace T1092 : Hid (cx[1092]? = some (.slice A1092 n1092 k1092)) := Lib.hid (by rw [hcx]; exact T1092.out)
  have zx1 : 1957 ≤ cx.size := by rw [hcx]; exact hsz1
  have zx2 : cx.size ≤ 1957 := by rw [hcx]; exact hsz2
  clear hcx
  -- slice 653
  have hk := K.out
  have hcell := hk.cell
  have hcl2 : ∀ i, (wx.alloc (.cells #[] 24)).cell? ⟨w.heap.size, i, none⟩ = cx[i]? := (hk.alloc _).cell
  have hT := T653.out
  have HZ := HZRt
  go_upto_region 2 with ((at_builtin; (with_reducible apply l_append 32 wx.heap.size); (focus exact Try.underlying32); (focus exact HIRt.out.1); (focus exact HIRt.out.2.1); (focus exact HIRt.out.2.2.1); (focus exact HIRt.out.2.2.2); (focus (first | rfl | exact HZ.out)); (focus decide); (focus rfl); (focus exact (ownsRow_empty _ _ _ (Nat.le_refl _))); (focus rfl); (focus exact ((S653.out.below (D.out.mono hB)).alloc (by omega) _)); (focus exact (One.out 653 (by decide))); (focus (first | omega | (simp; omega))); (focus (first | omega | (simp; omega))); (focus (first | omega | (simp; done) | (simp; omega)))))
  intro v x653 hown hgw
  replace hown : x653.ownsRow wx.heap.size 24 32 v n653 (L 653) := by
    simp only [Nat.zero_add, List.nil_append] at hown
    exact hown
  obtain ⟨a653, c653, rfl⟩ := own_form hown
  have hb1 : Below wx.heap.size wx x653 := ((Below.refl _ _).alloc (Nat.le_refl _) _).grown hgw (by simp) (fun k hk => by
    have h : some wx.heap.size = some k := hk
    exact Nat.le_of_eq (Option.some.inj h))
  have g653 := hb1.size
  have K1 := Lib.hid (Blk.below hk hb1 (by omega))
  have Kz1 := Lib.hid (Blk.below Kz.out hb1 (by omega))
  have O653 : Hid (Own1 x653 wx.heap.size x653.heap.size 653 (.slice a653 n653 c653) L) := Lib.hid (Own1.mk_ hown)
  have D1 := Lib.hid (D.out.trans (hb1.mono (by omega)))
  clear hown hgw hb1 hk hcell hcl2 HZ K Kz D
  have hcell := K1.out.cell
  have hfz := K1.out.frozen
  go_upto_region 2 with fail
  obtain ⟨y653, hy⟩ : ∃ y : World, y = x653.setCell ⟨w.heap.size, 653, none⟩ (.slice a653 n653 c653) := ⟨_, rfl⟩
  obtain ⟨cy653, hcy⟩ : ∃ c, c = cx.setIfInBounds 653 (.slice a653 n653 c653) := ⟨_, rfl⟩
  have K : Hid (Blk y653 w.heap.size 49 cy653) := Lib.hid (by rw [hy, hcy]; exact blk_setCell K1.out _ _)
  have Kz : Hid (Blk y653 (w.heap.size + 1) 49 (zc Try.prog 49)) := Lib.hid (by rw [hy]; exact blk_setCell_other Kz1.out (show w.heap.size + 1 ≠ w.heap.size by omega) _)
  have D : Hid (Below w.heap.size w y653) := Lib.hid (by rw [hy]; exact D1.out.setCell (Nat.le_refl _) _)
  have gy6531 : x653.heap.size ≤ y653.heap.size := by rw [hy, World.size_setCell]; exact Nat.le_refl _
  have gy6532 : y653.heap.size ≤ x653.heap.size := by rw [hy, World.size_setCell]; exact Nat.le_refl _
  replace O653 : Hid (Own1 y653 wx.heap.size x653.heap.size 653 (.slice a653 n653 c653) L) := Lib.hid (by rw [hy]; exact O653.out.setCell (p := ⟨w.heap.size, 653, none⟩) (show w.heap.size < _ by omega) _)
  have Y653 : Hid (cy653[653]? = some (.slice a653 n653 c653)) := Lib.hid (by rw [hcy]; exact get_set_eq (by omega))
  have Ey : Hid (∀ i, ¬ isSO i → cy653[i]? = cs[i]?) := Lib.hid fun i hi => by rw [hcy, get_set_ne (fun h => hi (by subst h; decide))]; exact Ex.out i hi
  replace T719 : Hid (cy653[719]? = some (.slice A719 n719 k719)) := Lib.hid (by rw [hcy, get_set_ne (by decide)]; exact T719.out)
  replace T721 : Hid (cy653[721]? = some (.slice A721 n721 k721)) := Lib.hid (by rw [hcy, get_set_ne (by decide)]; exact T721.out)
  replace T722 : Hid (cy653[722]? = some (.slice A722 n722 k722)) := Lib.hid (by rw [hcy, get_set_ne (by decide)]; exact T722.out)
  replace T987 : Hid (cy653[987]? = some (.slice A987 n987 k987)) := Lib.hid (by rw [hcy, get_set_ne (by decide)]; exact T987.out)
  replace T988 : Hid (cy653[988]? = some (.slice A988 n988 k988)) := Lib.hid (by rw [hcy, get_set_ne (by decide)]; exact T988.out)
  replace T1092 : Hid (cy653[1092]? = some (.slice A1092 n1092 k1092)) := Lib.hid (by rw [hcy, get_set_ne (by decide)]; exact T1092.out)
  have zy6531 : 1957 ≤ cy653.size := by rw [hcy, Array.size_setIfInBounds]; exact zx1
  have zy6532 : cy653.size ≤ 1957 := by rw [hcy, Array.size_setIfInBounds]; exact zx2
  rw [← hy]
  clear hy hcy K1 Kz1 D1 hcell hfz hT Ex
  have E653 := Ey
  clear Ey
  -- slice 719
  have hk := K.out
  have hcell := hk.cell
  have hcl2 : ∀ i, (y653.alloc (.cells #[] 34)).cell? ⟨w.heap.size, i, none⟩ = cy653[i]? := (hk.alloc _).cell
  have hT := T719.out
  have HZ := HZE1
  go_upto_region 3 with ((at_builtin; (with_reducible apply l_append 35 y653.heap.size); (focus exact Try.underlying35); (focus exact HIE1.out.1); (focus exact HIE1.out.2.1); (focus exact HIE1.out.2.2.1); (focus exact HIE1.out.2.2.2); (focus (first | rfl | exact HZ.out)); (focus decide); (focus rfl); (focus exact (ownsRow_empty _ _ _ (Nat.le_refl _))); (focus rfl); (focus exact ((S719.out.below (D.out.mono hB)).alloc (by omega) _)); (focus exact (One.out 719 (by decide))); (focus (first | omega | (simp; omega))); (focus (first | omega | (simp; omega))); (focus (first | omega | (simp; done) | (simp; omega)))))
  intro v x719 hown hgw
  replace hown : x719.ownsRow y653.heap.size 34 65 v n719 (L 719) := by
    simp only [Nat.zero_add, List.nil_append] at hown
    exact hown
  obtain ⟨a719, c719, rfl⟩ := own_form hown
  have hb1 : Below y653.heap.size y653 x719 := ((Below.refl _ _).alloc (Nat.le_refl _) _).grown hgw (by simp) (fun k hk => by
    have h : some y653.heap.size = some k := hk
    exact Nat.le_of_eq (Option.some.inj h))
  have g719 := hb1.size
  have K1 := Lib.hid (Blk.below hk hb1 (by omega))
  have Kz1 := Lib.hid (Blk.below Kz.out hb1 (by omega))
  have O719 : Hid (Own1 x719 y653.heap.size x719.heap.size 719 (.slice a719 n719 c719) L) := Lib.hid (Own1.mk_ hown)
  have D1 := Lib.hid (D.out.trans (hb1.mono (by omega)))
  replace O653 := Lib.hid (O653.out.below hb1)
  clear hown hgw hb1 hk hcell hcl2 HZ K Kz D
  have hcell := K1.out.cell
  have hfz := K1.out.frozen
  go_upto_region 3 with fail
  obtain ⟨y719, hy⟩ : ∃ y : World, y = x719.setCell ⟨w.heap.size, 719, none⟩ (.slice a719 n719 c719) := ⟨_, rfl⟩
  obtain ⟨cy719, hcy⟩ : ∃ c, c = cy653.setIfInBounds 719 (.slice a719 n719 c719) := ⟨_, rfl⟩
  have K : Hid (Blk y719 w.heap.size 49 cy719) := Lib.hid (by rw [hy, hcy]; exact blk_setCell K1.out _ _)
  have Kz : Hid (Blk y719 (w.heap.size + 1) 49 (zc Try.prog 49)) := Lib.hid (by rw [hy]; exact blk_setCell_other Kz1.out (show w.heap.size + 1 ≠ w.heap.size by omega) _)
  have D : Hid (Below w.heap.size w y719) := Lib.hid (by rw [hy]; exact D1.out.setCell (Nat.le_refl _) _)
  have gy7191 : x719.heap.size ≤ y719.heap.size := by rw [hy, World.size_setCell]; exact Nat.le_refl _
  have gy7192 : y719.heap.size ≤ x719.heap.size := by rw [hy, World.size_setCell]; exact Nat.le_refl _
  replace O653 : Hid (Own1 y719 wx.heap.size x653.heap.size 653 (.slice a653 n653 c653) L) := Lib.hid (by rw [hy]; exact O653.out.setCell (p := ⟨w.heap.size, 719, none⟩) (show w.heap.size < _ by omega) _)
  replace O719 : Hid (Own1 y719 y653.heap.size x719.heap.size 719 (.slice a719 n719 c719) L) := Lib.hid (by rw [hy]; exact O719.out.setCell (p := ⟨w.heap.size, 719, none⟩) (show w.heap.size < _ by omega) _)
  have Y719 : Hid (cy719[719]? = some (.slice a719 n719 c719)) := Lib.hid (by rw [hcy]; exact get_set_eq (by omega))
  have Ey : Hid (∀ i, ¬ isSO i → cy719[i]? = cs[i]?) := Lib.hid fun i hi => by rw [hcy, get_set_ne (fun h => hi (by subst h; decide))]; exact E653.out i hi
  replace Y653 : Hid (cy719[653]? = some (.slice a653 n653 c653)) := Lib.hid (by rw [hcy, get_set_ne (by decide)]; exact Y653.out)
  replace T721 : Hid (cy719[721]? = some (.slice A721 n721 k721)) := Lib.hid (by rw [hcy, get_set_ne (by decide)]; exact T721.out)
  replace T722 : Hid (cy719[722]? = some (.slice A722 n722 k722)) := Lib.hid (by rw [hcy, get_set_ne (by decide)]; exact T722.out)
  replace T987 : Hid (cy719[987]? = some (.slice A987 n987 k987)) := Lib.hid (by rw [hcy, get_set_ne (by decide)]; exact T987.out)
  replace T988 : Hid (cy719[988]? = some (.slice A988 n988 k988)) := Lib.hid (by rw [hcy, get_set_ne (by decide)]; exact T988.out)
  replace T1092 : Hid (cy719[1092]? = some (.slice A1092 n1092 k1092)) := Lib.hid (by rw [hcy, get_set_ne (by decide)]; exact T1092.out)
  have zy7191 : 1957 ≤ cy719.size := by rw [hcy, Array.size_setIfInBounds]; exact zy6531
  have zy7192 : cy719.size ≤ 1957 := by rw [hcy, Array.size_setIfInBounds]; exact zy6532
  rw [← hy]
  clear hy hcy K1 Kz1 D1 hcell hfz hT E653
  have E719 := Ey
  clear Ey
  -- slice 721
  have hk := K.out
  have hcell := hk.cell
  have hcl2 : ∀ i, (y719.alloc (.cells #[] 82)).cell? ⟨w.heap.size, i, none⟩ = cy719[i]? := (hk.alloc _).cell
  have hT := T721.out
  have HZ := HZVl
  go_upto_region 4 with ((at_builtin; (with_reducible apply l_append 36 y719.heap.size); (focus exact Try.underlying36); (focus exact HIVl.out.1); (focus exact HIVl.out.2.1); (focus exact HIVl.out.2.2.1); (focus exact HIVl.out.2.2.2); (focus (first | rfl | exact HZ.out)); (focus decide); (focus rfl); (focus exact (ownsRow_empty _ _ _ (Nat.le_refl _))); (focus rfl); (focus exact ((S721.out.below (D.out.mono hB)).alloc (by omega) _)); (focus exact (One.out 721 (by decide))); (focus (first | omega | (simp; omega))); (focus (first | omega | (simp; omega))); (focus (first | omega | (simp; done) | (simp; omega)))))
  intro v x721 hown hgw
  replace hown : x721.ownsRow y719.heap.size 82 86 v n721 (L 721) := by
    simp only [Nat.zero_add, List.nil_append] at hown
    exact hown
  obtain ⟨a721, c721, rfl⟩ := own_form hown
  have hb1 : Below y719.heap.size y719 x721 := ((Below.refl _ _).alloc (Nat.le_refl _) _).grown hgw (by simp) (fun k hk => by
    have h : some y719.heap.size = some k := hk
    exact Nat.le_of_eq (Option.some.inj h))
  have g721 := hb1.size
  have K1 := Lib.hid (Blk.below hk hb1 (by omega))
  have Kz1 := Lib.hid (Blk.below Kz.out hb1 (by omega))
  have O721 : Hid (Own1 x721 y719.heap.size x721.heap.size 721 (.slice a721 n721 c721) L) := Lib.hid (Own1.mk_ hown)
  have D1 := Lib.hid (D.out.trans (hb1.mono (by omega)))
  replace O653 := Lib.hid (O653.out.below hb1)
  replace O719 := Lib.hid (O719.out.below hb1)
  clear hown hgw hb1 hk hcell hcl2 HZ K Kz D
  have hcell := K1.out.cell
  have hfz := K1.out.frozen
  go_upto_region 4 with fail
  obtain ⟨y721, hy⟩ : ∃ y : World, y = x721.setCell ⟨w.heap.size, 721, none⟩ (.slice a721 n721 c721) := ⟨_, rfl⟩
  obtain ⟨cy721, hcy⟩ : ∃ c, c = cy719.setIfInBounds 721 (.slice a721 n721 c721) := ⟨_, rfl⟩
  have K : Hid (Blk y721 w.heap.size 49 cy721) := Lib.hid (by rw [hy, hcy]; exact blk_setCell K1.out _ _)
  have Kz : Hid (Blk y721 (w.heap.size + 1) 49 (zc Try.prog 49)) := Lib.hid (by rw [hy]; exact blk_setCell_other Kz1.out (show w.heap.size + 1 ≠ w.heap.size by omega) _)
  have D : Hid (Below w.heap.size w y721) := Lib.hid (by rw [hy]; exact D1.out.setCell (Nat.le_refl _) _)
  have gy7211 : x721.heap.size ≤ y721.heap.size := by rw [hy, World.size_setCell]; exact Nat.le_refl _
  have gy7212 : y721.heap.size ≤ x721.heap.size := by rw [hy, World.size_setCell]; exact Nat.le_refl _
  replace O653 : Hid (Own1 y721 wx.heap.size x653.heap.size 653 (.slice a653 n653 c653) L) := Lib.hid (by rw [hy]; exact O653.out.setCell (p := ⟨w.heap.size, 721, none⟩) (show w.heap.size < _ by omega) _)
  replace O719 : Hid (Own1 y721 y653.heap.size x719.heap.size 719 (.slice a719 n719 c719) L) := Lib.hid (by rw [hy]; exact O719.out.setCell (p := ⟨w.heap.size, 721, none⟩) (show w.heap.size < _ by omega) _)
  replace O721 : Hid (Own1 y721 y719.heap.size x721.heap.size 721 (.slice a721 n721 c721) L) := Lib.hid (by rw [hy]; exact O721.out.setCell (p := ⟨w.heap.size, 721, none⟩) (show w.heap.size < _ by omega) _)
  have Y721 : Hid (cy721[721]? = some (.slice a721 n721 c721)) := Lib.hid (by rw [hcy]; exact get_set_eq (by omega))
  have Ey : Hid (∀ i, ¬ isSO i → cy721[i]? = cs[i]?) := Lib.hid fun i hi => by rw [hcy, get_set_ne (fun h => hi (by subst h; decide))]; exact E719.out i hi
  replace Y653 : Hid (cy721[653]? = some (.slice a653 n653 c653)) := Lib.hid (by rw [hcy, get_set_ne (by decide)]; exact Y653.out)
  replace Y719 : Hid (cy721[719]? = some (.slice a719 n719 c719)) := Lib.hid (by rw [hcy, get_set_ne (by decide)]; exact Y719.out)
  replace T722 : Hid (cy721[722]? = some (.slice A722 n722 k722)) := Lib.hid (by rw [hcy, get_set_ne (by decide)]; exact T722.out)
  replace T987 : Hid (cy721[987]? = some (.slice A987 n987 k987)) := Lib.hid (by rw [hcy, get_set_ne (by decide)]; exact T987.out)
  replace T988 : Hid (cy721[988]? = some (.slice A988 n988 k988)) := Lib.hid (by rw [hcy, get_set_ne (by decide)]; exact T988.out)
  replace T1092 : Hid (cy721[1092]? = some (.slice A1092 n1092 k1092)) := Lib.hid (by rw [hcy, get_set_ne (by decide)]; exact T1092.out)
  have zy7211 : 1957 ≤ cy721.size := by rw [hcy, Array.size_setIfInBounds]; exact zy7191
  have zy7212 : cy721.size ≤ 1957 := by rw [hcy, Array.size_setIfInBounds]; exact zy7192
  rw [← hy]
  clear hy hcy K1 Kz1 D1 hcell hfz hT E719
  have E721 := Ey
  clear Ey
  -- slice 722
  have hk := K.out
  have hcell := hk.cell
  have hcl2 : ∀ i, (y721.alloc (.cells #[] 22)).cell? ⟨w.heap.size, i, none⟩ = cy721[i]? := (hk.alloc _).cell
  have hT := T722.out
  have HZ := HZN8
  go_upto_region 5 with ((at_builtin; (with_reducible apply l_append 37 y721.heap.size); (focus exact Try.underlying37); (focus exact HIN8.out.1); (focus exact HIN8.out.2.1); (focus exact HIN8.out.2.2.1); (focus exact HIN8.out.2.2.2); (focus (first | rfl | exact HZ.out)); (focus decide); (focus rfl); (focus exact (ownsRow_empty _ _ _ (Nat.le_refl _))); (focus rfl); (focus exact ((S722.out.below (D.out.mono hB)).alloc (by omega) _)); (focus exact (One.out 722 (by decide))); (focus (first | omega | (simp; omega))); (focus (first | omega | (simp; omega))); (focus (first | omega | (simp; done) | (simp; omega)))))
  intro v x722 hown hgw
  replace hown : x722.ownsRow y721.heap.size 22 1 v n722 (L 722) := by
    simp only [Nat.zero_add, List.nil_append] at hown
    exact hown
  obtain ⟨a722, c722, rfl⟩ := own_form hown
  have hb1 : Below y721.heap.size y721 x722 := ((Below.refl _ _).alloc (Nat.le_refl _) _).grown hgw (by simp) (fun k hk => by
    have h : some y721.heap.size = some k := hk
    exact Nat.le_of_eq (Option.some.inj h))
  have g722 := hb1.size
  have K1 := Lib.hid (Blk.below hk hb1 (by omega))
  have Kz1 := Lib.hid (Blk.below Kz.out hb1 (by omega))
  have O722 : Hid (Own1 x722 y721.heap.size x722.heap.size 722 (.slice a722 n722 c722) L) := Lib.hid (Own1.mk_ hown)
  have D1 := Lib.hid (D.out.trans (hb1.mono (by omega)))
  replace O653 := Lib.hid (O653.out.below hb1)
  replace O719 := Lib.hid (O719.out.below hb1)
  replace O721 := Lib.hid (O721.out.below hb1)
  clear hown hgw hb1 hk hcell hcl2 HZ K Kz D
  have hcell := K1.out.cell
  have hfz := K1.out.frozen
  go_upto_region 5 with fail
  obtain ⟨y722, hy⟩ : ∃ y : World, y = x722.setCell ⟨w.heap.size, 722, none⟩ (.slice a722 n722 c722) := ⟨_, rfl⟩
  obtain ⟨cy722, hcy⟩ : ∃ c, c = cy721.setIfInBounds 722 (.slice a722 n722 c722) := ⟨_, rfl⟩
  have K : Hid (Blk y722 w.heap.size 49 cy722) := Lib.hid (by rw [hy, hcy]; exact blk_setCell K1.out _ _)
  have Kz : Hid (Blk y722 (w.heap.size + 1) 49 (zc Try.prog 49)) := Lib.hid (by rw [hy]; exact blk_setCell_other Kz1.out (show w.heap.size + 1 ≠ w.heap.size by omega) _)
  have D : Hid (Below w.heap.size w y722) := Lib.hid (by rw [hy]; exact D1.out.setCell (Nat.le_refl _) _)
  have gy7221 : x722.heap.size ≤ y722.heap.size := by rw [hy, World.size_setCell]; exact Nat.le_refl _
  have gy7222 : y722.heap.size ≤ x722.heap.size := by rw [hy, World.size_setCell]; exact Nat.le_refl _
  replace O653 : Hid (Own1 y722 wx.heap.size x653.heap.size 653 (.slice a653 n653 c653) L) := Lib.hid (by rw [hy]; exact O653.out.setCell (p := ⟨w.heap.size, 722, none⟩) (show w.heap.size < _ by omega) _)
  replace O719 : Hid (Own1 y722 y653.heap.size x719.heap.size 719 (.slice a719 n719 c719) L) := Lib.hid (by rw [hy]; exact O719.out.setCell (p := ⟨w.heap.size, 722, none⟩) (show w.heap.size < _ by omega) _)
  replace O721 : Hid (Own1 y722 y719.heap.size x721.heap.size 721 (.slice a721 n721 c721) L) := Lib.hid (by rw [hy]; exact O721.out.setCell (p := ⟨w.heap.size, 722, none⟩) (show w.heap.size < _ by omega) _)
  replace O722 : Hid (Own1 y722 y721.heap.size x722.heap.size 722 (.slice a722 n722 c722) L) := Lib.hid (by rw [hy]; exact O722.out.setCell (p := ⟨w.heap.size, 722, none⟩) (show w.heap.size < _ by omega) _)
  have Y722 : Hid (cy722[722]? = some (.slice a722 n722 c722)) := Lib.hid (by rw [hcy]; exact get_set_eq (by omega))
  have Ey : Hid (∀ i, ¬ isSO i → cy722[i]? = cs[i]?) := Lib.hid fun i hi => by rw [hcy, get_set_ne (fun h => hi (by subst h; decide))]; exact E721.out i hi
  replace Y653 : Hid (cy722[653]? = some (.slice a653 n653 c653)) := Lib.hid (by rw [hcy, get_set_ne (by decide)]; exact Y653.out)
  replace Y719 : Hid (cy722[719]? = some (.slice a719 n719 c719)) := Lib.hid (by rw [hcy, get_set_ne (by decide)]; exact Y719.out)
  replace Y721 : Hid (cy722[721]? = some (.slice a721 n721 c721)) := Lib.hid (by rw [hcy, get_set_ne (by decide)]; exact Y721.out)
  replace T987 : Hid (cy722[987]? = some (.slice A987 n987 k987)) := Lib.hid (by rw [hcy, get_set_ne (by decide)]; exact T987.out)
  replace T988 : Hid (cy722[988]? = some (.slice A988 n988 k988)) := Lib.hid (by rw [hcy, get_set_ne (by decide)]; exact T988.out)
  replace T1092 : Hid (cy722[1092]? = some (.slice A1092 n1092 k1092)) := Lib.hid (by rw [hcy, get_set_ne (by decide)]; exact T1092.out)
  have zy7221 : 1957 ≤ cy722.size := by rw [hcy, Array.size_setIfInBounds]; exact zy7211
  have zy7222 : cy722.size ≤ 1957 := by rw [hcy, Array.size_setIfInBounds]; exact zy7212
  rw [← hy]
  clear hy hcy K1 Kz1 D1 hcell hfz hT E721
  have E722 := Ey
  clear Ey
  -- slice 987
  have hk := K.out
  have hcell := hk.cell
  have hcl2 : ∀ i, (y722.alloc (.cells #[] 5)).cell? ⟨w.heap.size, i, none⟩ = cy722[i]? := (hk.alloc _).cell
  have hT := T987.out
  have HZ := HZB1
  go_upto_region 6 with ((at_builtin; (with_reducible apply l_append 39 y722.heap.size); (focus exact Try.underlying39); (focus exact HIB1.out.1); (focus exact HIB1.out.2.1); (focus exact HIB1.out.2.2.1); (focus exact HIB1.out.2.2.2); (focus (first | rfl | exact HZ.out)); (focus decide); (focus rfl); (focus exact (ownsRow_empty _ _ _ (Nat.le_refl _))); (focus rfl); (focus exact ((S987.out.below (D.out.mono hB)).alloc (by omega) _)); (focus exact (One.out 987 (by decide))); (focus (first | omega | (simp; omega))); (focus (first | omega | (simp; omega))); (focus (first | omega | (simp; done) | (simp; omega)))))
  intro v x987 hown hgw
  replace hown : x987.ownsRow y722.heap.size 5 1 v n987 (L 987) := by
    simp only [Nat.zero_add, List.nil_append] at hown
    exact hown
  obtain ⟨a987, c987, rfl⟩ := own_form hown
  have hb1 : Below y722.heap.size y722 x987 := ((Below.refl _ _).alloc (Nat.le_refl _) _).grown hgw (by simp) (fun k hk => by
    have h : some y722.heap.size = some k := hk
    exact Nat.le_of_eq (Option.some.inj h))
  have g987 := hb1.size
  have K1 := Lib.hid (Blk.below hk hb1 (by omega))
  have Kz1 := Lib.hid (Blk.below Kz.out hb1 (by omega))
  have O987 : Hid (Own1 x987 y722.heap.size x987.heap.size 987 (.slice a987 n987 c987) L) := Lib.hid (Own1.mk_ hown)
  have D1 := Lib.hid (D.out.trans (hb1.mono (by omega)))
  replace O653 := Lib.hid (O653.out.below hb1)
  replace O719 := Lib.hid (O719.out.below hb1)
  replace O721 := Lib.hid (O721.out.below hb1)
  replace O722 := Lib.hid (O722.out.below hb1)
  clear hown hgw hb1 hk hcell hcl2 HZ K Kz D
  have hcell := K1.out.cell
  have hfz := K1.out.frozen
  go_upto_region 6 with fail
  obtain ⟨y987, hy⟩ : ∃ y : World, y = x987.setCell ⟨w.heap.size, 987, none⟩ (.slice a987 n987 c987) := ⟨_, rfl⟩
  obtain ⟨cy987, hcy⟩ : ∃ c, c = cy722.setIfInBounds 987 (.slice a987 n987 c987) := ⟨_, rfl⟩
  have K : Hid (Blk y987 w.heap.size 49 cy987) := Lib.hid (by rw [hy, hcy]; exact blk_setCell K1.out _ _)
  have Kz : Hid (Blk y987 (w.heap.size + 1) 49 (zc Try.prog 49)) := Lib.hid (by rw [hy]; exact blk_setCell_other Kz1.out (show w.heap.size + 1 ≠ w.heap.size by omega) _)
  have D : Hid (Below w.heap.size w y987) := Lib.hid (by rw [hy]; exact D1.out.setCell (Nat.le_refl _) _)
  have gy9871 : x987.heap.size ≤ y987.heap.size := by rw [hy, World.size_setCell]; exact Nat.le_refl _
  have gy9872 : y987.heap.size ≤ x987.heap.size := by rw [hy, World.size_setCell]; exact Nat.le_refl _
  replace O653 : Hid (Own1 y987 wx.heap.size x653.heap.size 653 (.slice a653 n653 c653) L) := Lib.hid (by rw [hy]; exact O653.out.setCell (p := ⟨w.heap.size, 987, none⟩) (show w.heap.size < _ by omega) _)
  replace O719 : Hid (Own1 y987 y653.heap.size x719.heap.size 719 (.slice a719 n719 c719) L) := Lib.hid (by rw [hy]; exact O719.out.setCell (p := ⟨w.heap.size, 987, none⟩) (show w.heap.size < _ by omega) _)
  replace O721 : Hid (Own1 y987 y719.heap.size x721.heap.size 721 (.slice a721 n721 c721) L) := Lib.hid (by rw [hy]; exact O721.out.setCell (p := ⟨w.heap.size, 987, none⟩) (show w.heap.size < _ by omega) _)
  replace O722 : Hid (Own1 y987 y721.heap.size x722.heap.size 722 (.slice a722 n722 c722) L) := Lib.hid (by rw [hy]; exact O722.out.setCell (p := ⟨w.heap.size, 987, none⟩) (show w.heap.size < _ by omega) _)
  replace O987 : Hid (Own1 y987 y722.heap.size x987.heap.size 987 (.slice a987 n987 c987) L) := Lib.hid (by rw [hy]; exact O987.out.setCell (p := ⟨w.heap.size, 987, none⟩) (show w.heap.size < _ by omega) _)
  have Y987 : Hid (cy987[987]? = some (.slice a987 n987 c987)) := Lib.hid (by rw [hcy]; exact get_set_eq (by omega))
  have Ey : Hid (∀ i, ¬ isSO i → cy987[i]? = cs[i]?) := Lib.hid fun i hi => by rw [hcy, get_set_ne (fun h => hi (by subst h; decide))]; exact E722.out i hi
  replace Y653 : Hid (cy987[653]? = some (.slice a653 n653 c653)) := Lib.hid (by rw [hcy, get_set_ne (by decide)]; exact Y653.out)
  replace Y719 : Hid (cy987[719]? = some (.slice a719 n719 c719)) := Lib.hid (by rw [hcy, get_set_ne (by decide)]; exact Y719.out)
  replace Y721 : Hid (cy987[721]? = some (.slice a721 n721 c721)) := Lib.hid (by rw [hcy, get_set_ne (by decide)]; exact Y721.out)
  replace Y722 : Hid (cy987[722]? = some (.slice a722 n722 c722)) := Lib.hid (by rw [hcy, get_set_ne (by decide)]; exact Y722.out)
  replace T988 : Hid (cy987[988]? = some (.slice A988 n988 k988)) := Lib.hid (by rw [hcy, get_set_ne (by decide)]; exact T988.out)
  replace T1092 : Hid (cy987[1092]? = some (.slice A1092 n1092 k1092)) := Lib.hid (by rw [hcy, get_set_ne (by decide)]; exact T1092.out)
  have zy9871 : 1957 ≤ cy987.size := by rw [hcy, Array.size_setIfInBounds]; exact zy7221
  have zy9872 : cy987.size ≤ 1957 := by rw [hcy, Array.size_setIfInBounds]; exact zy7222
  rw [← hy]
  clear hy hcy K1 Kz1 D1 hcell hfz hT E722
  have E987 := Ey
  clear Ey
  -- slice 988
  have hk := K.out
  have hcell := hk.cell
  have hcl2 : ∀ i, (y987.alloc (.cells #[] 5)).cell? ⟨w.heap.size, i, none⟩ = cy987[i]? := (hk.alloc _).cell
  have hT := T988.out
  have HZ := HZB1
  go_upto_region 7 with ((at_builtin; (with_reducible apply l_append 39 y987.heap.size); (focus exact Try.underlying39); (focus exact HIB1.out.1); (focus exact HIB1.out.2.1); (focus exact HIB1.out.2.2.1); (focus exact HIB1.out.2.2.2); (focus (first | rfl | exact HZ.out)); (focus decide); (focus rfl); (focus exact (ownsRow_empty _ _ _ (Nat.le_refl _))); (focus rfl); (focus exact ((S988.out.below (D.out.mono hB)).alloc (by omega) _)); (focus exact (One.out 988 (by decide))); (focus (first | omega | (simp; omega))); (focus (first | omega | (simp; omega))); (focus (first | omega | (simp; done) | (simp; omega)))))
  intro v x988 hown hgw
  replace hown : x988.ownsRow y987.heap.size 5 1 v n988 (L 988) := by
    simp only [Nat.zero_add, List.nil_append] at hown
    exact hown
  obtain ⟨a988, c988, rfl⟩ := own_form hown
  have hb1 : Below y987.heap.size y987 x988 := ((Below.refl _ _).alloc (Nat.le_refl _) _).grown hgw (by simp) (fun k hk => by
    have h : some y987.heap.size = some k := hk
    exact Nat.le_of_eq (Option.some.inj h))
  have g988 := hb1.size
  have K1 := Lib.hid (Blk.below hk hb1 (by omega))
  have Kz1 := Lib.hid (Blk.below Kz.out hb1 (by omega))
  have O988 : Hid (Own1 x988 y987.heap.size x988.heap.size 988 (.slice a988 n988 c988) L) := Lib.hid (Own1.mk_ hown)
  have D1 := Lib.hid (D.out.trans (hb1.mono (by omega)))
  replace O653 := Lib.hid (O653.out.below hb1)
  replace O719 := Lib.hid (O719.out.below hb1)
  replace O721 := Lib.hid (O721.out.below hb1)
  replace O722 := Lib.hid (O722.out.below hb1)
  replace O987 := Lib.hid (O987.out.below hb1)
  clear hown hgw hb1 hk hcell hcl2 HZ K Kz D
  have hcell := K1.out.cell
  have hfz := K1.out.frozen
  go_upto_region 7 with fail
  obtain ⟨y988, hy⟩ : ∃ y : World, y = x988.setCell ⟨w.heap.size, 988, none⟩ (.slice a988 n988 c988) := ⟨_, rfl⟩
  obtain ⟨cy988, hcy⟩ : ∃ c, c = cy987.setIfInBounds 988 (.slice a988 n988 c988) := ⟨_, rfl⟩
  have K : Hid (Blk y988 w.heap.size 49 cy988) := Lib.hid (by rw [hy, hcy]; exact blk_setCell K1.out _ _)
  have Kz : Hid (Blk y988 (w.heap.size + 1) 49 (zc Try.prog 49)) := Lib.hid (by rw [hy]; exact blk_setCell_other Kz1.out (show w.heap.size + 1 ≠ w.heap.size by omega) _)
  have D : Hid (Below w.heap.size w y988) := Lib.hid (by rw [hy]; exact D1.out.setCell (Nat.le_refl _) _)
  have gy9881 : x988.heap.size ≤ y988.heap.size := by rw [hy, World.size_setCell]; exact Nat.le_refl _
  have gy9882 : y988.heap.size ≤ x988.heap.size := by rw [hy, World.size_setCell]; exact Nat.le_refl _
  replace O653 : Hid (Own1 y988 wx.heap.size x653.heap.size 653 (.slice a653 n653 c653) L) := Lib.hid (by rw [hy]; exact O653.out.setCell (p := ⟨w.heap.size, 988, none⟩) (show w.heap.size < _ by omega) _)
  replace O719 : Hid (Own1 y988 y653.heap.size x719.heap.size 719 (.slice a719 n719 c719) L) := Lib.hid (by rw [hy]; exact O719.out.setCell (p := ⟨w.heap.size, 988, none⟩) (show w.heap.size < _ by omega) _)
  replace O721 : Hid (Own1 y988 y719.heap.size x721.heap.size 721 (.slice a721 n721 c721) L) := Lib.hid (by rw [hy]; exact O721.out.setCell (p := ⟨w.heap.size, 988, none⟩) (show w.heap.size < _ by omega) _)
  replace O722 : Hid (Own1 y988 y721.heap.size x722.heap.size 722 (.slice a722 n722 c722) L) := Lib.hid (by rw [hy]; exact O722.out.setCell (p := ⟨w.heap.size, 988, none⟩) (show w.heap.size < _ by omega) _)
  replace O987 : Hid (Own1 y988 y722.heap.size x987.heap.size 987 (.slice a987 n987 c987) L) := Lib.hid (by rw [hy]; exact O987.out.setCell (p := ⟨w.heap.size, 988, none⟩) (show w.heap.size < _ by omega) _)
  replace O988 : Hid (Own1 y988 y987.heap.size x988.heap.size 988 (.slice a988 n988 c988) L) := Lib.hid (by rw [hy]; exact O988.out.setCell (p := ⟨w.heap.size, 988, none⟩) (show w.heap.size < _ by omega) _)
  have Y988 : Hid (cy988[988]? = some (.slice a988 n988 c988)) := Lib.hid (by rw [hcy]; exact get_set_eq (by omega))
  have Ey : Hid (∀ i, ¬ isSO i → cy988[i]? = cs[i]?) := Lib.hid fun i hi => by rw [hcy, get_set_ne (fun h => hi (by subst h; decide))]; exact E987.out i hi
  replace Y653 : Hid (cy988[653]? = some (.slice a653 n653 c653)) := Lib.hid (by rw [hcy, get_set_ne (by decide)]; exact Y653.out)
  replace Y719 : Hid (cy988[719]? = some (.slice a719 n719 c719)) := Lib.hid (by rw [hcy, get_set_ne (by decide)]; exact Y719.out)
  replace Y721 : Hid (cy988[721]? = some (.slice a721 n721 c721)) := Lib.hid (by rw [hcy, get_set_ne (by decide)]; exact Y721.out)
  replace Y722 : Hid (cy988[722]? = some (.slice a722 n722 c722)) := Lib.hid (by rw [hcy, get_set_ne (by decide)]; exact Y722.out)
  replace Y987 : Hid (cy988[987]? = some (.slice a987 n987 c987)) := Lib.hid (by rw [hcy, get_set_ne (by decide)]; exact Y987.out)
  replace T1092 : Hid (cy988[1092]? = some (.slice A1092 n1092 k1092)) := Lib.hid (by rw [hcy, get_set_ne (by decide)]; exact T1092.out)
  have zy9881 : 1957 ≤ cy988.size := by rw [hcy, Array.size_setIfInBounds]; exact zy9871
  have zy9882 : cy988.size ≤ 1957 := by rw [hcy, Array.size_setIfInBounds]; exact zy9872
  rw [← hy]
  clear hy hcy K1 Kz1 D1 hcell hfz hT E987
  have E988 := Ey
  clear Ey
  -- slice 1092
  have hk := K.out
  have hcell := hk.cell
  have hcl2 : ∀ i, (y988.alloc (.cells #[] 22)).cell? ⟨w.heap.size, i, none⟩ = cy988[i]? := (hk.alloc _).cell
  have hT := T1092.out
  have HZ := HZN8
  go_upto_region 8 with ((at_builtin; (with_reducible apply l_append 37 y988.heap.size); (focus exact Try.underlying37); (focus exact HIN8.out.1); (focus exact HIN8.out.2.1); (focus exact HIN8.out.2.2.1); (focus exact HIN8.out.2.2.2); (focus (first | rfl | exact HZ.out)); (focus decide); (focus rfl); (focus exact (ownsRow_empty _ _ _ (Nat.le_refl _))); (focus rfl); (focus exact ((S1092.out.below (D.out.mono hB)).alloc (by omega) _)); (focus exact (One.out 1092 (by decide))); (focus (first | omega | (simp; omega))); (focus (first | omega | (simp; omega))); (focus (first | omega | (simp; done) | (simp; omega)))))
  intro v x1092 hown hgw
  replace hown : x1092.ownsRow y988.heap.size 22 1 v n1092 (L 1092) := by
    simp only [Nat.zero_add, List.nil_append] at hown
    exact hown
  obtain ⟨a1092, c1092, rfl⟩ := own_form hown
  have hb1 : Below y988.heap.size y988 x1092 := ((Below.refl _ _).alloc (Nat.le_refl _) _).grown hgw (by simp) (fun k hk => by
    have h : some y988.heap.size = some k := hk
    exact Nat.le_of_eq (Option.some.inj h))
  have g1092 := hb1.size
  have K1 := Lib.hid (Blk.below hk hb1 (by omega))
  have Kz1 := Lib.hid (Blk.below Kz.out hb1 (by omega))
  have O1092 : Hid (Own1 x1092 y988.heap.size x1092.heap.size 1092 (.slice a1092 n1092 c1092) L) := Lib.hid (Own1.mk_ hown)
  have D1 := Lib.hid (D.out.trans (hb1.mono (by omega)))
  replace O653 := Lib.hid (O653.out.below hb1)
  replace O719 := Lib.hid (O719.out.below hb1)
  replace O721 := Lib.hid (O721.out.below hb1)
  replace O722 := Lib.hid (O722.out.below hb1)
  replace O987 := Lib.hid (O987.out.below hb1)
  replace O988 := Lib.hid (O988.out.below hb1)
  clear hown hgw hb1 hk hcell hcl2 HZ K Kz D
  have hcell := K1.out.cell
  have hfz := K1.out.frozen
  go_upto_region 8 with fail
  obtain ⟨y1092, hy⟩ : ∃ y : World, y = x1092.setCell ⟨w.heap.size, 1092, none⟩ (.slice a1092 n1092 c1092) := ⟨_, rfl⟩
  obtain ⟨cy1092, hcy⟩ : ∃ c, c = cy988.setIfInBounds 1092 (.slice a1092 n1092 c1092) := ⟨_, rfl⟩
  have K : Hid (Blk y1092 w.heap.size 49 cy1092) := Lib.hid (by rw [hy, hcy]; exact blk_setCell K1.out _ _)
  have Kz : Hid (Blk y1092 (w.heap.size + 1) 49 (zc Try.prog 49)) := Lib.hid (by rw [hy]; exact blk_setCell_other Kz1.out (show w.heap.size + 1 ≠ w.heap.size by omega) _)
  have D : Hid (Below w.heap.size w y1092) := Lib.hid (by rw [hy]; exact D1.out.setCell (Nat.le_refl _) _)
  have gy10921 : x1092.heap.size ≤ y1092.heap.size := by rw [hy, World.size_setCell]; exact Nat.le_refl _
  have gy10922 : y1092.heap.size ≤ x1092.heap.size := by rw [hy, World.size_setCell]; exact Nat.le_refl _
  replace O653 : Hid (Own1 y1092 wx.heap.size x653.heap.size 653 (.slice a653 n653 c653) L) := Lib.hid (by rw [hy]; exact O653.out.setCell (p := ⟨w.heap.size, 1092, none⟩) (show w.heap.size < _ by omega) _)
  replace O719 : Hid (Own1 y1092 y653.heap.size x719.heap.size 719 (.slice a719 n719 c719) L) := Lib.hid (by rw [hy]; exact O719.out.setCell (p := ⟨w.heap.size, 1092, none⟩) (show w.heap.size < _ by omega) _)
  replace O721 : Hid (Own1 y1092 y719.heap.size x721.heap.size 721 (.slice a721 n721 c721) L) := Lib.hid (by rw [hy]; exact O721.out.setCell (p := ⟨w.heap.size, 1092, none⟩) (show w.heap.size < _ by omega) _)
  replace O722 : Hid (Own1 y1092 y721.heap.size x722.heap.size 722 (.slice a722 n722 c722) L) := Lib.hid (by rw [hy]; exact O722.out.setCell (p := ⟨w.heap.size, 1092, none⟩) (show w.heap.size < _ by omega) _)
  replace O987 : Hid (Own1 y1092 y722.heap.size x987.heap.size 987 (.slice a987 n987 c987) L) := Lib.hid (by rw [hy]; exact O987.out.setCell (p := ⟨w.heap.size, 1092, none⟩) (show w.heap.size < _ by omega) _)
  replace O988 : Hid (Own1 y1092 y987.heap.size x988.heap.size 988 (.slice a988 n988 c988) L) := Lib.hid (by rw [hy]; exact O988.out.setCell (p := ⟨w.heap.size, 1092, none⟩) (show w.heap.size < _ by omega) _)
  replace O1092 : Hid (Own1 y1092 y988.heap.size x1092.heap.size 1092 (.slice a1092 n1092 c1092) L) := Lib.hid (by rw [hy]; exact O1092.out.setCell (p := ⟨w.heap.size, 1092, none⟩) (show w.heap.size < _ by omega) _)
  have Y1092 : Hid (cy1092[1092]? = some (.slice a1092 n1092 c1092)) := Lib.hid (by rw [hcy]; exact get_set_eq (by omega))
  have Ey : Hid (∀ i, ¬ isSO i → cy1092[i]? = cs[i]?) := Lib.hid fun i hi => by rw [hcy, get_set_ne (fun h => hi (by subst h; decide))]; exact E988.out i hi
  replace Y653 : Hid (cy1092[653]? = some (.slice a653 n653 c653)) := Lib.hid (by rw [hcy, get_set_ne (by decide)]; exact Y653.out)
  replace Y719 : Hid (cy1092[719]? = some (.slice a719 n719 c719)) := Lib.hid (by rw [hcy, get_set_ne (by decide)]; exact Y719.out)
  replace Y721 : Hid (cy1092[721]? = some (.slice a721 n721 c721)) := Lib.hid (by rw [hcy, get_set_ne (by decide)]; exact Y721.out)
  replace Y722 : Hid (cy1092[722]? = some (.slice a722 n722 c722)) := Lib.hid (by rw [hcy, get_set_ne (by decide)]; exact Y722.out)
  replace Y987 : Hid (cy1092[987]? = some (.slice a987 n987 c987)) := Lib.hid (by rw [hcy, get_set_ne (by decide)]; exact Y987.out)
  replace Y988 : Hid (cy1092[988]? = some (.slice a988 n988 c988)) := Lib.hid (by rw [hcy, get_set_ne (by decide)]; exact Y988.out)
  have zy10921 : 1957 ≤ cy1092.size := by rw [hcy, Array.size_setIfInBounds]; exact zy9881
  have zy10922 : cy1092.size ≤ 1957 := by rw [hcy, Array.size_setIfInBounds]; exact zy9882
  rw [← hy]
  clear hy hcy K1 Kz1 D1 hcell hfz hT E988
  have E1092 := Ey
  clear Ey
  obtain ⟨hst, how⟩ := copy_close (base := w.heap.size) (W := y1092.setRow (w.heap.size + 1) cy1092) H.out zy10921 zy10922 E1092.out Y653.out Y719.out Y721.out Y722.out Y1092.out Y987.out Y988.out (x := wx.heap.size) (by omega) (s653 := y653.heap.size) (s719 := y719.heap.size) (s721 := y721.heap.size) (s722 := y722.heap.size) (s987 := y987.heap.size) (s988 := y988.heap.size) (s1092 := y1092.heap.size) (by omega) (by omega) (by omega) (by omega) (by omega) (by omega) (by omega)
    ((own1_hi O653.out (by omega)).setRow (g := w.heap.size + 1) (by omega) cy1092)
    ((own1_hi O719.out (by omega)).setRow (g := w.heap.size + 1) (by omega) cy1092)
    ((own1_hi O721.out (by omega)).setRow (g := w.heap.size + 1) (by omega) cy1092)
    ((own1_hi O722.out (by omega)).setRow (g := w.heap.size + 1) (by omega) cy1092)
    ((own1_hi O1092.out (by omega)).setRow (g := w.heap.size + 1) (by omega) cy1092)
    ((own1_hi O987.out (by omega)).setRow (g := w.heap.size + 1) (by omega) cy1092)
    ((own1_hi O988.out (by omega)).setRow (g := w.heap.size + 1) (by omega) cy1092)
  have Hones := Lib.hid hst.wf.ones
  have Fin_ := Lib.hid (And.intro E1092.out (And.intro hst how))
  have hbu := D.out
  have hk := K.out
  have hz := Kz.out
  have hcell := hk.cell
  clear hst how
  clear O653 Y653 S653
  clear O719 Y719 S719
  clear O721 Y721 S721
  clear O722 Y722 S722
  clear O987 Y987 S987
  clear O988 Y988 S988
  clear O1092 Y1092 S1092
  go_wp2_with (first | ((with_reducible apply l_loadw 49); (focus rfl); (focus (repeat (first | assumption | (apply Blk.newAt; (focus (simp; done))) | apply Blk.alloc | apply Blk.setRow | apply Blk.drewN | apply Blk.drew | (refine Blk.setRow_other ?_ ?_ _; focus (first | omega | (simp; omega)))))); (focus exact Try.underlying49); (focus rfl); (focus exact szState); (focus (first | exact omega | (first | omega | (simp; done) | (simp; omega) | assumption))); (try go_frame)) | ((with_reducible apply l_storew 49); (focus rfl); (focus rfl); (focus (repeat (first | assumption | (apply Blk.newAt; (focus (simp; done))) | apply Blk.alloc | apply Blk.setRow | apply Blk.drewN | apply Blk.drew | (refine Blk.setRow_other ?_ ?_ _; focus (first | omega | (simp; omega)))))); (focus exact szState); (focus (first | exact omega | (first | omega | (simp; done) | (simp; omega) | assumption))); (focus (first | omega | (simp; done) | (simp; omega) | assumption)); (focus exact Hones.out); (focus (repeat (first | (apply setRow_eq_at; (focus (simp; done))) | (refine setRow_eq_past ?_ ?_; (focus (first | (simp; done) | omega | (simp; omega)))) | apply setRow_eq_drewN | apply setRow_eq_drew | rfl))); (try go_frame)) | ((with_reducible apply l_ret); (focus rfl); (focus rfl); (focus (repeat (first | assumption | (apply Blk.newAt; (focus (simp; done))) | apply Blk.alloc | apply Blk.setRow | apply Blk.drewN | apply Blk.drew | (refine Blk.setRow_other ?_ ?_ _; focus (first | omega | (simp; omega)))))); (focus exact Try.underlying49); (focus rfl); (focus exact szState); (focus (first | exact omega | (first | omega | (simp; done) | (simp; omega) | assumption))); (focus rfl)))
  exact ⟨cy1092, rfl, Fin_.out.1, Fin_.out.2.1, Fin_.out.2.2, below_setRow hbu (by omega) _⟩

end Go.Proofs.Ytikbkcidalippaa
