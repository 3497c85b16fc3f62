/-
  pharosref22.Justify: walked.
-/
import Derived.Test.YtikbkcidalippaaJustify
import Derived.Test.YtikbkcidalippaaRWeighErr
namespace Go.Proofs.Ytikbkcidalippaa
open Go.RowKit
attribute [local irreducible] Hid Blk
set_option maxRecDepth 100000

theorem just_bounds {w : World} {B : Nat} {cs : Array Value} {L : Nat → List Value} (h : IsSt w B cs L) (hr : RightP cs L) (p : Nat → Bool) : 0 ≤ max1 (effTo (L 721) p (cnt L 721)) ∧ max1 (effTo (L 721) p (cnt L 721)) ≤ 1152921504606846976 := by
  have h1 := effTo_bound (eff_of h hr) p (cnt L 721) (Nat.le_refl _)
  have h2 := hr.vals
  have h3 := max1_bound h1.1 (by omega)
  omega

set_option maxHeartbeats 4000000 in
theorem rjustify_err (cs : Array Value) (L : Nat → List Value) (B : Nat) (w : World) (hB : B ≤ w.heap.size) (h : IsSt w B cs L) (hno : ¬ (RightP cs L ∧ cN cs 33 % 4 = 3)) :
    Calls Try.prog 15 #[.agg cs] w fun e w' => e = .returned (.tuple #[.agg zst, .int .i64 1]) ∧ Below w.heap.size w w' := by
  have H := Lib.hid h
  have hsz1 : 1957 ≤ cs.size := Nat.le_of_eq h.wf.size.symm
  have hsz2 : cs.size ≤ 1957 := Nat.le_of_eq h.wf.size
  have hS := Lib.hid zst_size
  have hZs1 : 1957 ≤ zst.size := Nat.le_of_eq zst_size.symm
  have hZs2 : zst.size ≤ 1957 := Nat.le_of_eq zst_size
  have hO := Lib.hid zst_wf.ones
  have hBu := Lib.hid built_zst
  have hzz : Hid (zc Try.prog 49 = zst) := Lib.hid rfl
  have HR : Hid ((rightB cs L && (cN cs 33 % 4 == 3)) = false) := Lib.hid (by
    cases hb : (rightB cs L && (cN cs 33 % 4 == 3))
    · rfl
    · simp only [Bool.and_eq_true, beq_iff_eq] at hb
      exact absurd ⟨rightB_iff.1 hb.1, hb.2⟩ hno)
  clear h hno
  generalize zst = Z at *
  go_enter Try.func15, Try.ntmps15
  go_upto_region 1 with ((with_reducible apply l_alloc 49); (focus kernel_rfl); (try go_frame))
  simp only [World.size_alloc]
  rw [hzz.out]
  obtain ⟨wx, hwx⟩ : ∃ wx : World, wx = (w.alloc (.cells cs 49)).alloc (.cells Z 49) := ⟨_, rfl⟩
  have hbx : Below w.heap.size w wx := by rw [hwx]; exact (by (repeat (first | exact Below.refl _ _ | apply Below.drew | apply below_drewN | (refine Below.alloc ?_ ?_ _) | (refine below_setRow ?_ ?_ _) | (refine Below.setCell ?_ ?_ _) | (refine Below.trans ?_ (Below.mono (by assumption) ?_)) | omega | (focus (simp; done)) | (focus (simp; omega)))))
  have hkx : Blk wx w.heap.size 49 cs := by rw [hwx]; exact (by (repeat (first | assumption | (apply Blk.newAt; (focus (simp; done))) | apply Blk.alloc | apply Blk.setRow | apply Blk.drewN | apply Blk.drew | (refine Blk.setRow_other ?_ ?_ _; focus (first | omega | (simp; omega))))))
  have hzx : Blk wx (w.heap.size + 1) 49 Z := by rw [hwx]; exact (by (repeat (first | assumption | (apply Blk.newAt; (focus (simp; done))) | apply Blk.alloc | apply Blk.setRow | apply Blk.drewN | apply Blk.drew | (refine Blk.setRow_other ?_ ?_ _; focus (first | omega | (simp; omega))))))
  have hgx : w.heap.size + 2 ≤ wx.heap.size := by rw [hwx]; simp
  rw [← hwx]
  clear hwx
  have Bx := Lib.hid hbx
  go_wp2_with (first
    | ((with_reducible apply l_loadw 49); (focus rfl); (focus (repeat (first | assumption | (apply Blk.newAt; (focus (simp; done))) | apply Blk.alloc | apply Blk.setRow | apply Blk.drewN | apply Blk.drew | (refine Blk.setRow_other ?_ ?_ _; focus (first | omega | (simp; omega)))))); (focus exact Try.underlying49); (focus rfl); (focus exact szState); (focus (first | exact omega | (first | omega | (simp; done) | (simp; omega) | assumption))); (try go_frame))
    | (go_at_call 19; refine (rend_any cs L w.heap.size _ (by omega) ?_).mono ?_
       focus (exact (H.out.more hB).below Bx.out)
       rintro e w1 ⟨rfl, hb1⟩
       rw [HR.out]
       have hg1 : wx.heap.size ≤ w1.heap.size := hb1.size
       have D1 := Lib.hid (Below.trans hbx (Below.mono hb1 (by omega)))
       have hk1 : Blk w1 w.heap.size 49 cs := Blk.below hkx hb1 (by omega)
       have hz1 : Blk w1 (w.heap.size + 1) 49 Z := Blk.below hzx hb1 (by omega)
       clear hkx hzx hbx hb1)
    | ((with_reducible apply l_build 49); (focus rfl); (focus exact hBu.out); (try go_frame))
    | ((with_reducible apply l_storew 49); (focus rfl); (focus rfl); (focus (repeat (first | assumption | (apply Blk.newAt; (focus (simp; done))) | apply Blk.alloc | apply Blk.setRow | apply Blk.drewN | apply Blk.drew | (refine Blk.setRow_other ?_ ?_ _; focus (first | omega | (simp; omega)))))); (focus exact szState); (focus (first | exact hS.out | (first | omega | (simp; done) | (simp; omega) | assumption))); (focus (first | omega | (simp; done) | (simp; omega) | assumption)); (focus exact hO.out); (focus (repeat (first | (apply setRow_eq_at; (focus (simp; done))) | (refine setRow_eq_past ?_ ?_; (focus (first | (simp; done) | omega | (simp; omega)))) | apply setRow_eq_drewN | apply setRow_eq_drew | rfl))); (try go_frame)))
  ((with_reducible apply l_ret2); (focus rfl); (focus rfl); (focus rfl); (focus (repeat (first | assumption | (apply Blk.newAt; (focus (simp; done))) | apply Blk.alloc | apply Blk.setRow | apply Blk.drewN | apply Blk.drew | (refine Blk.setRow_other ?_ ?_ _; focus (first | omega | (simp; omega)))))); (focus exact Try.underlying49); (focus rfl); (focus exact szState); (focus (first | exact hS.out | (first | omega | (simp; done) | (simp; omega) | assumption))); (focus rfl))
  exact ⟨rfl, below_setRow D1.out (by omega) _⟩

set_option maxHeartbeats 4000000 in
theorem rjustify_low (cs : Array Value) (L : Nat → List Value) (B : Nat) (w : World) (hB : B ≤ w.heap.size) (h : IsSt w B cs L) (hr : RightP cs L) (hm : cN cs 33 % 4 = 3) (he : cN cs 33 / 4 ≤ 1) :
    Calls Try.prog 15 #[.agg cs] w fun e w' => ∃ cs', e = .returned (.tuple #[.agg cs', .int .i64 0]) ∧ (∀ i, ¬ isSO i → cs'[i]? = cs[i]?) ∧ IsSt w' w'.heap.size cs' L ∧ Below w.heap.size w w' := by
  have H := Lib.hid h
  have hsz1 : 1957 ≤ cs.size := Nat.le_of_eq h.wf.size.symm
  have hsz2 : cs.size ≤ 1957 := Nat.le_of_eq h.wf.size
  have HR : Hid ((rightB cs L && (cN cs 33 % 4 == 3)) = true) := Lib.hid (by rw [rightB_yes hr, hm]; rfl)
  have hd : decide (cN cs 33 / 4 ≤ 1) = true := decide_eq_true he
  have HD := Lib.hid hd
  clear h hr hm he hd
  go_enter Try.func15, Try.ntmps15
  go_upto_region 1 with ((with_reducible apply l_alloc 49); (focus kernel_rfl); (try go_frame))
  simp only [World.size_alloc]
  obtain ⟨wx, hwx⟩ : ∃ wx : World, wx = (w.alloc (.cells cs 49)).alloc (.cells (zc Try.prog 49) 49) := ⟨_, rfl⟩
  have hbx : Below w.heap.size w wx := by rw [hwx]; exact (by (repeat (first | exact Below.refl _ _ | apply Below.drew | apply below_drewN | (refine Below.alloc ?_ ?_ _) | (refine below_setRow ?_ ?_ _) | (refine Below.setCell ?_ ?_ _) | (refine Below.trans ?_ (Below.mono (by assumption) ?_)) | omega | (focus (simp; done)) | (focus (simp; omega)))))
  have hkx : Blk wx w.heap.size 49 cs := by rw [hwx]; exact (by (repeat (first | assumption | (apply Blk.newAt; (focus (simp; done))) | apply Blk.alloc | apply Blk.setRow | apply Blk.drewN | apply Blk.drew | (refine Blk.setRow_other ?_ ?_ _; focus (first | omega | (simp; omega))))))
  have hzx : Blk wx (w.heap.size + 1) 49 (zc Try.prog 49) := by rw [hwx]; exact (by (repeat (first | assumption | (apply Blk.newAt; (focus (simp; done))) | apply Blk.alloc | apply Blk.setRow | apply Blk.drewN | apply Blk.drew | (refine Blk.setRow_other ?_ ?_ _; focus (first | omega | (simp; omega))))))
  have hgx : w.heap.size + 2 ≤ wx.heap.size := by rw [hwx]; simp
  rw [← hwx]
  clear hwx
  have Bx := Lib.hid hbx
  go_upto_region 3 with (first
    | ((with_reducible apply l_loadw 49); (focus rfl); (focus (repeat (first | assumption | (apply Blk.newAt; (focus (simp; done))) | apply Blk.alloc | apply Blk.setRow | apply Blk.drewN | apply Blk.drew | (refine Blk.setRow_other ?_ ?_ _; focus (first | omega | (simp; omega)))))); (focus exact Try.underlying49); (focus rfl); (focus exact szState); (focus (first | exact omega | (first | omega | (simp; done) | (simp; omega) | assumption))); (try go_frame))
    | (go_at_call 19; refine (rend_any cs L w.heap.size _ (by omega) ?_).mono ?_
       focus (exact (H.out.more hB).below Bx.out)
       rintro e w1 ⟨rfl, hb1⟩
       rw [HR.out]
       have hg1 : wx.heap.size ≤ w1.heap.size := hb1.size
       have D1 := Lib.hid (Below.trans hbx (Below.mono hb1 (by omega)))
       have hk1 : Blk w1 w.heap.size 49 cs := Blk.below hkx hb1 (by omega)
       have hz1 : Blk w1 (w.heap.size + 1) 49 (zc Try.prog 49) := Blk.below hzx hb1 (by omega)
       clear hkx hzx hbx hb1))
  generalize hep : cN cs 33 / 4 = ep at *
  have HEP := Lib.hid hep
  have hd := HD.out
  clear hep
  go_wp2_with (first
    | ((with_reducible apply l_loadw 49); (focus rfl); (focus (repeat (first | assumption | (apply Blk.newAt; (focus (simp; done))) | apply Blk.alloc | apply Blk.setRow | apply Blk.drewN | apply Blk.drew | (refine Blk.setRow_other ?_ ?_ _; focus (first | omega | (simp; omega)))))); (focus exact Try.underlying49); (focus rfl); (focus exact szState); (focus (first | exact omega | (first | omega | (simp; done) | (simp; omega) | assumption))); (try go_frame))
    | (go_at_call 20; refine (repoch_any cs H.out.wf _).mono ?_
       rintro e w2 ⟨rfl, hb2⟩
       rw [HEP.out]
       have D2 := Lib.hid (D1.out.trans (hb2.mono (by omega)))
       have hk2 := Blk.below hk1 hb2 (by omega)
       have hz2 := Blk.below hz1 hb2 (by omega)
       have hg2 := hb2.size
       clear hk1 hz1 hb2)
    | (go_at_call 9; refine (copy_any cs L w.heap.size _ (by omega) ((H.out.more hB).below D2.out)).mono ?_
       rintro e w3 ⟨cu, rfl, hcu, hst, how, hb3⟩
       have D3 := Lib.hid (D2.out.trans (hb3.mono (by omega)))
       have hz3 := Blk.below hz2 hb3 (by omega)
       have HU := Lib.hid (And.intro hcu (And.intro hst how))
       have hu1 : 1957 ≤ cu.size := Nat.le_of_eq hst.wf.size.symm
       have hu2 : cu.size ≤ 1957 := Nat.le_of_eq hst.wf.size
       have HO := Lib.hid hst.wf.ones
       have hg3 := hb3.size
       clear hk2 hz2 hb3 hcu hst how)
    | ((with_reducible apply l_storew 49); (focus rfl); (focus rfl); (focus (repeat (first | assumption | (apply Blk.newAt; (focus (simp; done))) | apply Blk.alloc | apply Blk.setRow | apply Blk.drewN | apply Blk.drew | (refine Blk.setRow_other ?_ ?_ _; focus (first | omega | (simp; omega)))))); (focus exact szState); (focus (first | exact omega | (first | omega | (simp; done) | (simp; omega) | assumption))); (focus (first | omega | (simp; done) | (simp; omega) | assumption)); (focus exact HO.out); (focus (repeat (first | (apply setRow_eq_at; (focus (simp; done))) | (refine setRow_eq_past ?_ ?_; (focus (first | (simp; done) | omega | (simp; omega)))) | apply setRow_eq_drewN | apply setRow_eq_drew | rfl))); (try go_frame)))
  ((with_reducible apply l_ret2); (focus rfl); (focus rfl); (focus rfl); (focus (repeat (first | assumption | (apply Blk.newAt; (focus (simp; done))) | apply Blk.alloc | apply Blk.setRow | apply Blk.drewN | apply Blk.drew | (refine Blk.setRow_other ?_ ?_ _; focus (first | omega | (simp; omega)))))); (focus exact Try.underlying49); (focus rfl); (focus exact szState); (focus (first | exact omega | (first | omega | (simp; done) | (simp; omega) | assumption))); (focus rfl))
  exact ⟨cu, rfl, HU.out.1, ((HU.out.2.2.base (lo' := w2.heap.size) (Nat.le_refl _)).keep fun b hb1 hb2 => setRow_other _ _ _ _ (by omega)).isSt HU.out.2.1.wf HU.out.2.1, below_setRow D3.out (by omega) _⟩

set_option maxHeartbeats 8000000 in
theorem rjustify_ok (cs : Array Value) (L : Nat → List Value) (B : Nat) (w : World) (hB : B ≤ w.heap.size) (h : IsSt w B cs L) (hr : RightP cs L) (hm : cN cs 33 % 4 = 3) (he : 1 < cN cs 33 / 4) :
    Calls Try.prog 15 #[.agg cs] w fun e w' => ∃ cs', e = .returned (.tuple #[.agg (weighC cs' (allOf cs L) (prevOf cs L) (curOf cs L)), .int .i64 0]) ∧ (∀ i, ¬ isSO i → cs'[i]? = cs[i]?) ∧ IsSt w' w'.heap.size cs' L ∧ Below w.heap.size w w' := by
  have H := Lib.hid h
  have Rp := Lib.hid hr
  have hsz := Lib.hid h.wf.size
  have hsz1 : 1957 ≤ cs.size := Nat.le_of_eq h.wf.size.symm
  have hsz2 : cs.size ≤ 1957 := Nat.le_of_eq h.wf.size
  have HR : Hid ((rightB cs L && (cN cs 33 % 4 == 3)) = true) := Lib.hid (by rw [rightB_yes hr, hm]; rfl)
  have Hm := Lib.hid hm
  have hW : W64 (cN cs 33 / 4) := weigh_epoch h.wf
  have hW1 : W64 (subz (cN cs 33 / 4) 1) := subz_w hW ⟨by omega, by omega⟩
  have HW := Lib.hid hW
  have HW1 := Lib.hid hW1
  have hd : decide (cN cs 33 / 4 ≤ 1) = false := decide_eq_false (by omega)
  have HD := Lib.hid hd
  have hne : subz (cN cs 33 / 4) 1 ≠ cN cs 33 / 4 := by unfold subz; split <;> omega
  have HL1 : Hid (lstK (cN cs 33 / 4) (subz (cN cs 33 / 4) 1) = 987) := Lib.hid (lstK_no hne)
  obtain ⟨U1, hU1⟩ : ∃ U, U = unsL (L 721) (L 987) (subz (cN cs 33 / 4) 1) 1 (cnt L 721) := ⟨_, rfl⟩
  obtain ⟨U2, hU2⟩ : ∃ U, U = unsL (L 721) (L 988) (cN cs 33 / 4) 1 (cnt L 721) := ⟨_, rfl⟩
  have HU1 := Lib.hid hU1.symm
  have HU2 := Lib.hid hU2.symm
  have hlen1 : U1.length ≤ 65536 := by rw [hU1]; exact Nat.le_trans (unsL_len _ _ _ _ _) hr.vals
  have hlen2 : U2.length ≤ 65536 := by rw [hU2]; exact Nat.le_trans (unsL_len _ _ _ _ _) hr.vals
  have HM1 : Hid (∀ i ∈ U1, i < cnt L 721) := Lib.hid (by rw [hU1]; exact fun i hi => List.mem_range.1 (List.mem_filter.1 hi).1)
  have HM2 : Hid (∀ i ∈ U2, i < cnt L 721) := Lib.hid (by rw [hU2]; exact fun i hi => List.mem_range.1 (List.mem_filter.1 hi).1)
  have HT1 : Hid (max1 (effL (L 721) U1) = prevOf cs L) := Lib.hid (by rw [hU1]; unfold unsL prevOf; rw [effL_filter])
  have HT2 : Hid (max1 (effL (L 721) U2) = curOf cs L) := Lib.hid (by rw [hU2]; unfold unsL curOf; rw [effL_filter])
  have HB0 : Hid (0 ≤ allOf cs L ∧ allOf cs L ≤ 1152921504606846976) := Lib.hid (just_bounds h hr _)
  have HB1 : Hid (0 ≤ prevOf cs L ∧ prevOf cs L ≤ 1152921504606846976) := Lib.hid (just_bounds h hr _)
  have HB2 : Hid (0 ≤ curOf cs L ∧ curOf cs L ≤ 1152921504606846976) := Lib.hid (just_bounds h hr _)
  clear h hr hm he hW hW1 hd hne hU1 hU2
  go_enter Try.func15, Try.ntmps15
  go_upto_region 1 with ((with_reducible apply l_alloc 49); (focus kernel_rfl); (try go_frame))
  simp only [World.size_alloc]
  obtain ⟨wx, hwx⟩ : ∃ wx : World, wx = (w.alloc (.cells cs 49)).alloc (.cells (zc Try.prog 49) 49) := ⟨_, rfl⟩
  have hbx : Below w.heap.size w wx := by rw [hwx]; exact (by (repeat (first | exact Below.refl _ _ | apply Below.drew | apply below_drewN | (refine Below.alloc ?_ ?_ _) | (refine below_setRow ?_ ?_ _) | (refine Below.setCell ?_ ?_ _) | (refine Below.trans ?_ (Below.mono (by assumption) ?_)) | omega | (focus (simp; done)) | (focus (simp; omega)))))
  have hkx : Blk wx w.heap.size 49 cs := by rw [hwx]; exact (by (repeat (first | assumption | (apply Blk.newAt; (focus (simp; done))) | apply Blk.alloc | apply Blk.setRow | apply Blk.drewN | apply Blk.drew | (refine Blk.setRow_other ?_ ?_ _; focus (first | omega | (simp; omega))))))
  have hzx : Blk wx (w.heap.size + 1) 49 (zc Try.prog 49) := by rw [hwx]; exact (by (repeat (first | assumption | (apply Blk.newAt; (focus (simp; done))) | apply Blk.alloc | apply Blk.setRow | apply Blk.drewN | apply Blk.drew | (refine Blk.setRow_other ?_ ?_ _; focus (first | omega | (simp; omega))))))
  have hgx : w.heap.size + 2 ≤ wx.heap.size := by rw [hwx]; simp
  rw [← hwx]
  clear hwx
  have Bx := Lib.hid hbx
  go_upto_region 3 with (first
    | ((with_reducible apply l_loadw 49); (focus rfl); (focus (repeat (first | assumption | (apply Blk.newAt; (focus (simp; done))) | apply Blk.alloc | apply Blk.setRow | apply Blk.drewN | apply Blk.drew | (refine Blk.setRow_other ?_ ?_ _; focus (first | omega | (simp; omega)))))); (focus exact Try.underlying49); (focus rfl); (focus exact szState); (focus (first | exact omega | (first | omega | (simp; done) | (simp; omega) | assumption))); (try go_frame))
    | (go_at_call 19; refine (rend_any cs L w.heap.size _ (by omega) ?_).mono ?_
       focus (exact (H.out.more hB).below Bx.out)
       rintro e w1 ⟨rfl, hb1⟩
       rw [HR.out]
       have hg1 : wx.heap.size ≤ w1.heap.size := hb1.size
       have D1 := Lib.hid (Below.trans hbx (Below.mono hb1 (by omega)))
       have hk1 : Blk w1 w.heap.size 49 cs := Blk.below hkx hb1 (by omega)
       have hz1 : Blk w1 (w.heap.size + 1) 49 (zc Try.prog 49) := Blk.below hzx hb1 (by omega)
       clear hkx hzx hbx hb1))
  obtain ⟨ep, hep⟩ : ∃ ep, ep = cN cs 33 / 4 := ⟨_, rfl⟩
  rw [← hep] at HD
  have HEP := Lib.hid hep.symm
  clear hep
  have hd := HD.out
  go_upto_region 5 with (first
    | ((with_reducible apply l_loadw 49); (focus rfl); (focus (repeat (first | assumption | (apply Blk.newAt; (focus (simp; done))) | apply Blk.alloc | apply Blk.setRow | apply Blk.drewN | apply Blk.drew | (refine Blk.setRow_other ?_ ?_ _; focus (first | omega | (simp; omega)))))); (focus exact Try.underlying49); (focus rfl); (focus exact szState); (focus (first | exact omega | (first | omega | (simp; done) | (simp; omega) | assumption))); (try go_frame))
    | (go_at_call 20; refine (repoch_any cs H.out.wf _).mono ?_
       rintro e w2 ⟨rfl, hb2⟩
       rw [HEP.out]
       have D2 := Lib.hid (D1.out.trans (hb2.mono (by omega)))
       have hk2 := Blk.below hk1 hb2 (by omega)
       have hz2 := Blk.below hz1 hb2 (by omega)
       have hg2 := hb2.size
       clear hk1 hz1 hb2))
  clear hd
  have hgg : w.heap.size + 2 ≤ w2.heap.size := by omega
  have HI2 : Hid (∀ w', Below w2.heap.size w2 w' → w.heap.size ≤ w'.heap.size ∧ IsSt w' w.heap.size cs L) := Lib.hid fun w' hb => by
    have := hb.size
    exact ⟨by omega, ((H.out.more hB).below D2.out).below (hb.mono (by omega))⟩
  have hrefl : ∀ (x : World) (b : Nat), Below b x x.drew := fun x b => (Below.refl _ _).drew
  have hkw : ∀ w', Below (w.heap.size + 1) w2 w' → Blk w' w.heap.size 49 cs := fun w' h => hk2.below h (by omega)
  -- region 5
  refine wp_region_held_drew (S := Below (w.heap.size + 1) w2) (by kernel_rfl) (hrefl _ _) (fun hHeld => ?_)
  (refine takeD 0 (some 18) (v := _) rfl rfl (by kernel_rfl) (by kernel_rfl) (by kernel_rfl) (fun _ _ _ h => h) (by assumption) (y_loadw 49 (by rfl) rfl rfl hkw Try.underlying49 rfl szState hsz.out) ?_; (try simp only [Act.put, List.setIfInBounds_toArray, List.set_cons_zero, List.set_cons_succ]))
  (refine takeD 1 (some 19) (v := _) rfl rfl (by kernel_rfl) (by kernel_rfl) (by kernel_rfl) (fun _ _ _ h => h) (by assumption) (y_loadw 49 (by rfl) rfl rfl hkw Try.underlying49 rfl szState hsz.out) ?_; (try simp only [Act.put, List.setIfInBounds_toArray, List.set_cons_zero, List.set_cons_succ]))
  (refine wpAnyH_ready (rs := [2]) (by kernel_rfl) (by simp) ?_; refine AllReadyH.cons (o := _) rfl (fun K hK => ?_) AllReadyH.nil)
  refine s_call (some 20) 21 (by rfl) rfl rfl Try.func21 (by kernel_rfl) rfl (vs := [.agg cs]) rfl (rbefore_any cs H.out.wf _) ?_
  rintro e wa ⟨rfl, hba⟩
  have sa : Below w2.heap.size w2 wa := (hrefl w2 _).trans hba
  refine ⟨_, rfl, ?_⟩
  refine hK.out _ _ (sa.mono (by omega)) (fun hHeld => ?_)
  (try simp only [Act.put, List.setIfInBounds_toArray, List.set_cons_zero, List.set_cons_succ])
  (refine wpAnyH_ready (rs := [3]) (by kernel_rfl) (by simp) ?_; refine AllReadyH.cons (o := _) rfl (fun K hK => ?_) AllReadyH.nil)
  refine s_call (some 21) 17 (by rfl) rfl rfl Try.func17 (by kernel_rfl) rfl (vs := [.agg cs, .int .i64 1, .int .u64 (subz (cN cs 33 / 4) 1)]) rfl
    (runs_any cs L w.heap.size _ (HI2.out _ sa).1 (HI2.out _ sa).2 Rp.out 1 (by decide) (subz (cN cs 33 / 4) 1) HW1.out (.inr rfl)) ?_
  rintro e wb ⟨v, rfl, hown, hbb⟩
  rw [HL1.out, HU1.out] at hown
  obtain ⟨a1, c1, rfl⟩ := own_form hown
  have S1 := Lib.hid (SlR.own (bytes := 8) hown (by omega))
  have sb : Below w2.heap.size w2 wb := sa.trans (hbb.mono sa.size)
  have SB := Lib.hid sb
  have hgb := sb.size
  refine ⟨_, rfl, ?_⟩
  refine hK.out _ _ (sb.mono (by omega)) (fun hHeld => ?_)
  (try simp only [Act.put, List.setIfInBounds_toArray, List.set_cons_zero, List.set_cons_succ])
  (refine takeD 4 (some 17) (v := ?_) rfl rfl (by kernel_rfl) (by kernel_rfl) (by kernel_rfl) (fun _ _ _ h => h) (by assumption) (Or.inl ⟨by rfl, ?_⟩) ?_; rotate_left; (focus (intro w' hS; skip; go_simp; (try (with_reducible rfl)); done)); (try simp only [Act.put, List.setIfInBounds_toArray, List.set_cons_zero, List.set_cons_succ]))
  (refine takeD 5 (some 22) (v := ?_) rfl rfl (by kernel_rfl) (by kernel_rfl) (by kernel_rfl) (fun _ _ _ h => h) (by assumption) (Or.inl ⟨by rfl, ?_⟩) ?_; rotate_left; (focus (intro w' hS; skip; go_simp; (try (with_reducible rfl)); done)); (try simp only [Act.put, List.setIfInBounds_toArray, List.set_cons_zero, List.set_cons_succ]))
  (refine takeD 6 (some 23) (v := ?_) rfl rfl (by kernel_rfl) (by kernel_rfl) (by kernel_rfl) (fun _ _ _ h => h) (by assumption) (Or.inl ⟨by rfl, ?_⟩) ?_; rotate_left; (focus (intro w' hS; skip; go_simp; (try (with_reducible rfl)); done)); (try simp only [Act.put, List.setIfInBounds_toArray, List.set_cons_zero, List.set_cons_succ]))
  (refine takeD 7 (some 4) (v := ?_) rfl rfl (by kernel_rfl) (by kernel_rfl) (by kernel_rfl) (fun _ _ _ h => h) (by assumption) (Or.inl ⟨by rfl, ?_⟩) ?_; rotate_left; (focus (intro w' hS; skip; go_simp; (try (with_reducible rfl)); done)); (try simp only [Act.put, List.setIfInBounds_toArray, List.set_cons_zero, List.set_cons_succ]))
  (refine takeD 8 (some 5) (v := ?_) rfl rfl (by kernel_rfl) (by kernel_rfl) (by kernel_rfl) (fun _ _ _ h => h) (by assumption) (Or.inl ⟨by rfl, ?_⟩) ?_; rotate_left; (focus (intro w' hS; skip; go_simp; (try (with_reducible rfl)); done)); (try simp only [Act.put, List.setIfInBounds_toArray, List.set_cons_zero, List.set_cons_succ]))
  refine wpAnyH_done (by kernel_rfl) ?_ _
  clear hHeld sa sb hown hba hbb
  have hk3 := hkw _ (SB.out.mono (by omega))
  go_upto_region 6 with fail
  have hkw3 : ∀ w', Below (w.heap.size + 1) wb w' → Blk w' w.heap.size 49 cs := fun w' h => hk3.below h (by omega)
  -- region 6
  refine wp_region_held_drew (S := Below (w.heap.size + 1) wb) (by kernel_rfl) (hrefl _ _) (fun hHeld => ?_)
  (refine takeD 0 (some 25) (v := _) rfl rfl (by kernel_rfl) (by kernel_rfl) (by kernel_rfl) (fun _ _ _ h => h) (by assumption) (y_loadw 49 (by rfl) rfl rfl hkw3 Try.underlying49 rfl szState hsz.out) ?_; (try simp only [Act.put, List.setIfInBounds_toArray, List.set_cons_zero, List.set_cons_succ]))
  (refine takeD 1 (some 26) (v := _) rfl rfl (by kernel_rfl) (by kernel_rfl) (by kernel_rfl) (fun _ _ _ h => h) (by assumption) (y_loadw 49 (by rfl) rfl rfl hkw3 Try.underlying49 rfl szState hsz.out) ?_; (try simp only [Act.put, List.setIfInBounds_toArray, List.set_cons_zero, List.set_cons_succ]))
  (refine wpAnyH_ready (rs := [2]) (by kernel_rfl) (by simp) ?_; refine AllReadyH.cons (o := _) rfl (fun K hK => ?_) AllReadyH.nil)
  refine s_call (some 27) 20 (by rfl) rfl rfl Try.func20 (by kernel_rfl) rfl (vs := [.agg cs]) rfl (repoch_any cs H.out.wf _) ?_
  rintro e wc ⟨rfl, hbc⟩
  have sc : Below wb.heap.size wb wc := (hrefl wb _).trans hbc
  refine ⟨_, rfl, ?_⟩
  refine hK.out _ _ (sc.mono (by omega)) (fun hHeld => ?_)
  (try simp only [Act.put, List.setIfInBounds_toArray, List.set_cons_zero, List.set_cons_succ])
  (refine wpAnyH_ready (rs := [3]) (by kernel_rfl) (by simp) ?_; refine AllReadyH.cons (o := _) rfl (fun K hK => ?_) AllReadyH.nil)
  have sc2 := SB.out.trans (sc.mono hgb)
  refine s_call (some 28) 17 (by rfl) rfl rfl Try.func17 (by kernel_rfl) rfl (vs := [.agg cs, .int .i64 1, .int .u64 (cN cs 33 / 4)]) rfl
    (runs_any cs L w.heap.size _ (HI2.out _ sc2).1 (HI2.out _ sc2).2 Rp.out 1 (by decide) (cN cs 33 / 4) HW.out (.inl rfl)) ?_
  rintro e wd ⟨v, rfl, hown, hbd⟩
  rw [lstK_yes, HU2.out] at hown
  obtain ⟨a2, c2, rfl⟩ := own_form hown
  have S2 := Lib.hid (SlR.own (bytes := 8) hown (by omega))
  have sd : Below wb.heap.size wb wd := sc.trans (hbd.mono sc.size)
  have S1' := Lib.hid ((S1.out.below sd).more sd.size)
  have SD := Lib.hid (SB.out.trans (sd.mono hgb))
  have hgd := sd.size
  refine ⟨_, rfl, ?_⟩
  refine hK.out _ _ (sd.mono (by omega)) (fun hHeld => ?_)
  (try simp only [Act.put, List.setIfInBounds_toArray, List.set_cons_zero, List.set_cons_succ])
  (refine takeD 4 (some 24) (v := ?_) rfl rfl (by kernel_rfl) (by kernel_rfl) (by kernel_rfl) (fun _ _ _ h => h) (by assumption) (Or.inl ⟨by rfl, ?_⟩) ?_; rotate_left; (focus (intro w' hS; skip; go_simp; (try (with_reducible rfl)); done)); (try simp only [Act.put, List.setIfInBounds_toArray, List.set_cons_zero, List.set_cons_succ]))
  (refine takeD 5 (some 29) (v := ?_) rfl rfl (by kernel_rfl) (by kernel_rfl) (by kernel_rfl) (fun _ _ _ h => h) (by assumption) (Or.inl ⟨by rfl, ?_⟩) ?_; rotate_left; (focus (intro w' hS; skip; go_simp; (try (with_reducible rfl)); done)); (try simp only [Act.put, List.setIfInBounds_toArray, List.set_cons_zero, List.set_cons_succ]))
  (refine takeD 6 (some 30) (v := ?_) rfl rfl (by kernel_rfl) (by kernel_rfl) (by kernel_rfl) (fun _ _ _ h => h) (by assumption) (Or.inl ⟨by rfl, ?_⟩) ?_; rotate_left; (focus (intro w' hS; skip; go_simp; (try (with_reducible rfl)); done)); (try simp only [Act.put, List.setIfInBounds_toArray, List.set_cons_zero, List.set_cons_succ]))
  (refine takeD 7 (some 6) (v := ?_) rfl rfl (by kernel_rfl) (by kernel_rfl) (by kernel_rfl) (fun _ _ _ h => h) (by assumption) (Or.inl ⟨by rfl, ?_⟩) ?_; rotate_left; (focus (intro w' hS; skip; go_simp; (try (with_reducible rfl)); done)); (try simp only [Act.put, List.setIfInBounds_toArray, List.set_cons_zero, List.set_cons_succ]))
  (refine takeD 8 (some 7) (v := ?_) rfl rfl (by kernel_rfl) (by kernel_rfl) (by kernel_rfl) (fun _ _ _ h => h) (by assumption) (Or.inl ⟨by rfl, ?_⟩) ?_; rotate_left; (focus (intro w' hS; skip; go_simp; (try (with_reducible rfl)); done)); (try simp only [Act.put, List.setIfInBounds_toArray, List.set_cons_zero, List.set_cons_succ]))
  refine wpAnyH_done (by kernel_rfl) ?_ _
  have hk4 := hkw3 _ (sd.mono (by omega))
  clear hHeld sc sc2 sd hown hbc hbd hk3 hkw hkw3
  go_upto_region 7 with fail
  have hkw4 : ∀ w', Below (w.heap.size + 1) wd w' → Blk w' w.heap.size 49 cs := fun w' h => hk4.below h (by omega)
  have HZ4 : Hid (∀ w', Below wd.heap.size wd w' → Blk w' (w.heap.size + 1) 49 (zc Try.prog 49)) := Lib.hid fun w' h => (hz2.below SD.out (by omega)).below h (by omega)
  have HI4 : Hid (∀ w', Below wd.heap.size wd w' → w.heap.size ≤ w'.heap.size ∧ IsSt w' w.heap.size cs L) := Lib.hid fun w' hb => HI2.out w' (SD.out.trans (hb.mono (by omega)))
  clear hk2 hz2
  -- region 7
  have HFin : Hid (∀ (w5 : World) (cu : Array Value), Below wd.heap.size wd w5 → (∀ i, ¬ isSO i → cu[i]? = cs[i]?) → IsSt w5 w5.heap.size cu L → Owned w5 wd.heap.size cu L →
      IsSt (w5.setRow (w.heap.size + 1) (weighC cu (allOf cs L) (prevOf cs L) (curOf cs L))) (w5.setRow (w.heap.size + 1) (weighC cu (allOf cs L) (prevOf cs L) (curOf cs L))).heap.size cu L ∧ Below w.heap.size w (w5.setRow (w.heap.size + 1) (weighC cu (allOf cs L) (prevOf cs L) (curOf cs L)))) := Lib.hid fun w5 cu h1 h2 h3 h4 =>
    ⟨(h4.keep fun b hb1 hb2 => setRow_other _ _ _ _ (by omega)).isSt h3.wf h3, below_setRow ((D2.out.trans (SD.out.mono (by omega))).trans (h1.mono (by omega))) (by omega) _⟩
  refine wp_region_held_drew (S := Below (w.heap.size + 1) wd) (by kernel_rfl) (hrefl _ _) (fun hHeld => ?_)
  (refine takeD 0 (some 31) (v := _) rfl rfl (by kernel_rfl) (by kernel_rfl) (by kernel_rfl) (fun _ _ _ h => h) (by assumption) (y_loadw 49 (by rfl) rfl rfl hkw4 Try.underlying49 rfl szState hsz.out) ?_; (try simp only [Act.put, List.setIfInBounds_toArray, List.set_cons_zero, List.set_cons_succ]))
  (refine takeD 1 (some 32) (v := _) rfl rfl (by kernel_rfl) (by kernel_rfl) (by kernel_rfl) (fun _ _ _ h => h) (by assumption) (y_loadw 49 (by rfl) rfl rfl hkw4 Try.underlying49 rfl szState hsz.out) ?_; (try simp only [Act.put, List.setIfInBounds_toArray, List.set_cons_zero, List.set_cons_succ]))
  (refine takeD 3 (some 34) (v := _) rfl rfl (by kernel_rfl) (by kernel_rfl) (by kernel_rfl) (fun _ _ _ h => h) (by assumption) (y_loadw 49 (by rfl) rfl rfl hkw4 Try.underlying49 rfl szState hsz.out) ?_; (try simp only [Act.put, List.setIfInBounds_toArray, List.set_cons_zero, List.set_cons_succ]))
  (refine takeD 4 (some 35) (v := ?_) rfl rfl (by kernel_rfl) (by kernel_rfl) (by kernel_rfl) (fun _ _ _ h => h) (by assumption) (Or.inl ⟨by rfl, ?_⟩) ?_; rotate_left; (focus (intro w' hS; skip; go_simp; (try (with_reducible rfl)); done)); (try simp only [Act.put, List.setIfInBounds_toArray, List.set_cons_zero, List.set_cons_succ]))
  (refine takeD 6 (some 37) (v := _) rfl rfl (by kernel_rfl) (by kernel_rfl) (by kernel_rfl) (fun _ _ _ h => h) (by assumption) (y_loadw 49 (by rfl) rfl rfl hkw4 Try.underlying49 rfl szState hsz.out) ?_; (try simp only [Act.put, List.setIfInBounds_toArray, List.set_cons_zero, List.set_cons_succ]))
  (refine takeD 7 (some 38) (v := ?_) rfl rfl (by kernel_rfl) (by kernel_rfl) (by kernel_rfl) (fun _ _ _ h => h) (by assumption) (Or.inl ⟨by rfl, ?_⟩) ?_; rotate_left; (focus (intro w' hS; skip; go_simp; (try (with_reducible rfl)); done)); (try simp only [Act.put, List.setIfInBounds_toArray, List.set_cons_zero, List.set_cons_succ]))
  have s0 := hrefl wd wd.heap.size
  (refine wpAnyH_ready (rs := [2]) (by kernel_rfl) (by simp) ?_; refine AllReadyH.cons (o := _) rfl (fun K hK => ?_) AllReadyH.nil)
  refine s_call (some 33) 22 (by rfl) rfl rfl Try.func22 (by kernel_rfl) rfl (vs := [.agg cs]) rfl (rall_any cs L w.heap.size _ (HI4.out _ s0).1 (HI4.out _ s0).2 Rp.out) ?_
  rintro e x0 ⟨rfl, hb0⟩
  skip
  have s1 : Below wd.heap.size wd x0 := (s0).trans (hb0.mono (s0).size)
  refine ⟨_, rfl, ?_⟩
  refine hK.out _ _ (s1.mono (by omega)) (fun hHeld => ?_)
  (try simp only [Act.put, List.setIfInBounds_toArray, List.set_cons_zero, List.set_cons_succ])
  (refine wpAnyH_ready (rs := [5]) (by kernel_rfl) (by simp) ?_; refine AllReadyH.cons (o := _) rfl (fun K hK => ?_) AllReadyH.nil)
  refine s_call (some 36) 23 (by rfl) rfl rfl Try.func23 (by kernel_rfl) rfl (vs := [.agg cs, .slice a1 U1.length c1]) rfl (rtotal_any cs L w.heap.size _ (HI4.out _ s1).1 (HI4.out _ s1).2 Rp.out U1 HM1.out hlen1 a1 c1 _ (s1).size (S1'.out.below s1)) ?_
  rintro e x1 ⟨rfl, hb1⟩
  rw [HT1.out]
  have s2 : Below wd.heap.size wd x1 := (s1).trans (hb1.mono (s1).size)
  refine ⟨_, rfl, ?_⟩
  refine hK.out _ _ (s2.mono (by omega)) (fun hHeld => ?_)
  (try simp only [Act.put, List.setIfInBounds_toArray, List.set_cons_zero, List.set_cons_succ])
  (refine wpAnyH_ready (rs := [8]) (by kernel_rfl) (by simp) ?_; refine AllReadyH.cons (o := _) rfl (fun K hK => ?_) AllReadyH.nil)
  refine s_call (some 39) 23 (by rfl) rfl rfl Try.func23 (by kernel_rfl) rfl (vs := [.agg cs, .slice a2 U2.length c2]) rfl (rtotal_any cs L w.heap.size _ (HI4.out _ s2).1 (HI4.out _ s2).2 Rp.out U2 HM2.out hlen2 a2 c2 _ (s2).size (S2.out.below s2)) ?_
  rintro e x2 ⟨rfl, hb2⟩
  rw [HT2.out]
  have s3 : Below wd.heap.size wd x2 := (s2).trans (hb2.mono (s2).size)
  refine ⟨_, rfl, ?_⟩
  refine hK.out _ _ (s3.mono (by omega)) (fun hHeld => ?_)
  (try simp only [Act.put, List.setIfInBounds_toArray, List.set_cons_zero, List.set_cons_succ])
  (refine wpAnyH_ready (rs := [9]) (by kernel_rfl) (by simp) ?_; refine AllReadyH.cons (o := _) rfl (fun K hK => ?_) AllReadyH.nil)
  refine s_call (some 40) 11 (by rfl) rfl rfl Try.func11 (by kernel_rfl) rfl (vs := [.agg cs, .int .u64 (allOf cs L), .int .u64 (prevOf cs L), .int .u64 (curOf cs L)]) rfl
    (rweigh_ok cs L w.heap.size _ (HI4.out _ s3).1 (HI4.out _ s3).2 Rp.out Hm.out (allOf cs L) (prevOf cs L) (curOf cs L) HB0.out.1 HB0.out.2 HB1.out.1 HB1.out.2 HB2.out.1 HB2.out.2) ?_
  rintro e w5 ⟨cu, rfl, hcu, hst, how, hb5⟩
  have s5 : Below wd.heap.size wd w5 := (s3).trans (hb5.mono (s3).size)
  have hz5 := HZ4.out _ s5
  have hwf := hst.wf.weigh (allOf cs L) (prevOf cs L) (curOf cs L)
  obtain ⟨f1, f2⟩ := HFin.out w5 cu s5 hcu hst (how.base (s3).size)
  have F1 := Lib.hid f1; have F2 := Lib.hid f2; have F3 := Lib.hid hcu; have F4 := Lib.hid hwf.size
  have hg5 := s5.size
  clear f1 f2 hcu hst how hb5
  obtain ⟨Y, hY⟩ : ∃ Y, Y = weighC cu (allOf cs L) (prevOf cs L) (curOf cs L) := ⟨_, rfl⟩
  rw [← hY] at F1 F2 F4 hwf
  rw [← hY]
  have HY := Lib.hid hY
  clear hY
  refine ⟨_, rfl, ?_⟩
  refine hK.out _ _ (s5.mono (by omega)) (fun hHeld => ?_)
  (try simp only [Act.put, List.setIfInBounds_toArray, List.set_cons_zero, List.set_cons_succ])
  (refine takeD 10 (some 41) (v := ?_) rfl rfl (by kernel_rfl) (by kernel_rfl) (by kernel_rfl) (fun _ _ _ h => h) (by assumption) (Or.inl ⟨by rfl, ?_⟩) ?_; rotate_left; (focus (intro w' hS; skip; go_simp; (try (with_reducible rfl)); done)); (try simp only [Act.put, List.setIfInBounds_toArray, List.set_cons_zero, List.set_cons_succ]))
  (refine takeD 11 (some 42) (v := ?_) rfl rfl (by kernel_rfl) (by kernel_rfl) (by kernel_rfl) (fun _ _ _ h => h) (by assumption) (Or.inl ⟨by rfl, ?_⟩) ?_; rotate_left; (focus (intro w' hS; skip; go_simp; (try (with_reducible rfl)); done)); (try simp only [Act.put, List.setIfInBounds_toArray, List.set_cons_zero, List.set_cons_succ]))
  (refine wpAnyH_ready (rs := [12]) (by kernel_rfl) (by simp) ?_; refine AllReadyH.cons (o := _) rfl (fun K hK => ?_) AllReadyH.nil)
  (refine s_storew none 49 (by rfl) rfl rfl rfl rfl hz5 szState hwf.size szzState hwf.ones ?_; refine hK.out _ _ (below_setRow hHeld (Nat.le_refl _) _) (fun hHeld => ?_); (try simp only [Act.put]))
  (refine takeD 13 (some 3) (v := ?_) rfl rfl (by kernel_rfl) (by kernel_rfl) (by kernel_rfl) (fun _ _ _ h => h) (by assumption) (Or.inl ⟨by rfl, ?_⟩) ?_; rotate_left; (focus (intro w' hS; skip; go_simp; (try (with_reducible rfl)); done)); (try simp only [Act.put, List.setIfInBounds_toArray, List.set_cons_zero, List.set_cons_succ]))
  refine wpAnyH_done (by kernel_rfl) ?_ _
  clear hHeld s5 hwf
  go_wp2_with fail
  ((with_reducible apply l_ret2); (focus rfl); (focus rfl); (focus rfl); (focus (repeat (first | assumption | (apply Blk.newAt; (focus (simp; done))) | apply Blk.alloc | apply Blk.setRow | apply Blk.drewN | apply Blk.drew | (refine Blk.setRow_other ?_ ?_ _; focus (first | omega | (simp; omega)))))); (focus exact Try.underlying49); (focus rfl); (focus exact szState); (focus (first | exact F4.out | (first | omega | (simp; done) | (simp; omega) | assumption))); (focus rfl))
  exact ⟨cu, by rw [← HY.out]; rfl, F3.out, F1.out, F2.out⟩
end Go.Proofs.Ytikbkcidalippaa
