/-
  just.Weigh where it refuses: ErrArg. just.Justify where it refuses.
-/
import Derived.Test.YtikbkcidalippaaClone
import Derived.Test.YtikbkcidalippaaRightGo
import Derived.Test.YtikbkcidalippaaZero
import Derived.Deep.RegionLaw
namespace Go.Proofs.Ytikbkcidalippaa
open Go.RowKit
attribute [local irreducible] Hid Blk
set_option maxRecDepth 100000

set_option maxHeartbeats 2000000 in
theorem weigh_err (cs : Array Value) (L : Nat → List Value) (B : Nat) (w : World) (hB : B ≤ w.heap.size) (h : IsSt w B cs L) (all prev cur : Int)
    (ha : W64 all) (hp : W64 prev) (hc : W64 cur) (hno : ¬ (RightP cs L ∧ cN cs 33 % 4 = 3 ∧ all ≤ 1152921504606846976 ∧ prev ≤ 1152921504606846976 ∧ cur ≤ 1152921504606846976)) :
    Calls Try.prog 10 #[.agg cs, .int .u64 all, .int .u64 prev, .int .u64 cur] w fun e w' => e = .returned (.tuple #[.agg (zst), .int .i64 1]) ∧ Below w.heap.size w w' := by
  obtain ⟨h33, w33a, w33b⟩ := h.wf.u64 33 rfl
  obtain ⟨_, _⟩ := ha; obtain ⟨_, _⟩ := hp; obtain ⟨_, _⟩ := hc
  have H := Lib.hid h
  have Hno := Lib.hid hno
  have hsz1 : 1957 ≤ cs.size := Nat.le_of_eq h.wf.size.symm
  have hsz2 : cs.size ≤ 1957 := Nat.le_of_eq h.wf.size
  have hS := Lib.hid zst_size
  have hZs1 : 1957 ≤ zst.size := Nat.le_of_eq zst_size.symm
  have hZs2 : zst.size ≤ 1957 := Nat.le_of_eq zst_size
  have hO := Lib.hid zst_wf.ones
  have hBu := Lib.hid built_zst
  have hzz : Hid (zc Try.prog 49 = zst) := Lib.hid rfl
  obtain ⟨r, hr⟩ : ∃ r, r = rightB cs L := ⟨_, rfl⟩
  have HR := Lib.hid hr.symm
  clear h hno hr
  generalize zst = Z at *
  generalize hs : cN cs 33 = s at *
  have Hs := Lib.hid hs
  clear hs
  by_cases c1 : RightP cs L
  case neg =>
    obtain rfl : r = false := by rw [← HR.out]; exact rightB_no c1
    clear c1
    go_enter Try.func10, Try.ntmps10
    go_upto_region 1 with ((with_reducible apply l_alloc 49); (focus kernel_rfl); (try go_frame))
    simp only [World.size_alloc]
    rw [hzz.out]
    obtain ⟨wx, hwx⟩ : ∃ wx : World, wx = (w.alloc (.cells cs 49)).alloc (.cells Z 49) := ⟨_, rfl⟩
    have hbx : Below w.heap.size w wx := by rw [hwx]; exact (by (repeat (first | exact Below.refl _ _ | apply Below.drew | apply below_drewN | (refine Below.alloc ?_ ?_ _) | (refine below_setRow ?_ ?_ _) | (refine Below.setCell ?_ ?_ _) | (refine Below.trans ?_ (Below.mono (by assumption) ?_)) | omega | (focus (simp; done)) | (focus (simp; omega)))))
    have hkx : Blk wx w.heap.size 49 cs := by rw [hwx]; exact (by (repeat (first | assumption | (apply Blk.newAt; (focus (simp; done))) | apply Blk.alloc | apply Blk.setRow | apply Blk.drewN | apply Blk.drew | (refine Blk.setRow_other ?_ ?_ _; focus (first | omega | (simp; omega))))))
    have hzx : Blk wx (w.heap.size + 1) 49 Z := by rw [hwx]; exact (by (repeat (first | assumption | (apply Blk.newAt; (focus (simp; done))) | apply Blk.alloc | apply Blk.setRow | apply Blk.drewN | apply Blk.drew | (refine Blk.setRow_other ?_ ?_ _; focus (first | omega | (simp; omega))))))
    have hgx : w.heap.size + 2 ≤ wx.heap.size := by rw [hwx]; simp
    rw [← hwx]
    clear hwx
    have Bx := Lib.hid hbx
    go_wp2_with (first
      | ((with_reducible apply l_loadw 49); (focus rfl); (focus (repeat (first | assumption | (apply Blk.newAt; (focus (simp; done))) | apply Blk.alloc | apply Blk.setRow | apply Blk.drewN | apply Blk.drew | (refine Blk.setRow_other ?_ ?_ _; focus (first | omega | (simp; omega)))))); (focus exact Try.underlying49); (focus rfl); (focus exact szState); (focus (first | exact omega | (first | omega | (simp; done) | (simp; omega) | assumption))); (try go_frame))
      | (go_at_call 24; refine (right_any cs L w.heap.size _ (by omega) ?_).mono ?_
         focus (exact (H.out.more hB).below Bx.out)
         rintro e w1 ⟨rfl, hb1⟩
         rw [HR.out]
         have hd1 : Below w.heap.size w w1 := Below.trans hbx (Below.mono hb1 (by omega))
         have hk1 : Blk w1 w.heap.size 49 cs := Blk.below hkx hb1 (by omega)
         have hz1 : Blk w1 (w.heap.size + 1) 49 Z := Blk.below hzx hb1 (by omega)
         have D1 := Lib.hid hd1
         clear hkx hzx hbx hb1
         have hcell := hk1.cell
         have hfz := hk1.frozen)
      | ((with_reducible apply l_build 49); (focus rfl); (focus exact hBu.out); (try go_frame))
      | ((with_reducible apply l_storew 49); (focus rfl); (focus rfl); (focus (repeat (first | assumption | (apply Blk.newAt; (focus (simp; done))) | apply Blk.alloc | apply Blk.setRow | apply Blk.drewN | apply Blk.drew | (refine Blk.setRow_other ?_ ?_ _; focus (first | omega | (simp; omega)))))); (focus exact szState); (focus (first | exact hS.out | (first | omega | (simp; done) | (simp; omega) | assumption))); (focus (first | omega | (simp; done) | (simp; omega) | assumption)); (focus exact hO.out); (focus (repeat (first | (apply setRow_eq_at; (focus (simp; done))) | (refine setRow_eq_past ?_ ?_; (focus (first | (simp; done) | omega | (simp; omega)))) | apply setRow_eq_drewN | apply setRow_eq_drew | rfl))); (try go_frame)))
    all_goals (first | (((with_reducible apply l_ret2); (focus rfl); (focus rfl); (focus rfl); (focus (repeat (first | assumption | (apply Blk.newAt; (focus (simp; done))) | apply Blk.alloc | apply Blk.setRow | apply Blk.drewN | apply Blk.drew | (refine Blk.setRow_other ?_ ?_ _; focus (first | omega | (simp; omega)))))); (focus exact Try.underlying49); (focus rfl); (focus exact szState); (focus (first | exact hS.out | (first | omega | (simp; done) | (simp; omega) | assumption))); (focus rfl)); exact ⟨rfl, below_setRow D1.out (by omega) _⟩) | (exfalso; fail))
  obtain rfl : r = true := by rw [← HR.out]; exact rightB_yes c1
  by_cases c2 : s % 4 = 3
  case neg =>
    have m1 : (s % 4 != 3) = true := by rw [bne_iff_ne]; exact c2
    clear c1 c2
    go_enter Try.func10, Try.ntmps10
    go_upto_region 1 with ((with_reducible apply l_alloc 49); (focus kernel_rfl); (try go_frame))
    simp only [World.size_alloc]
    rw [hzz.out]
    obtain ⟨wx, hwx⟩ : ∃ wx : World, wx = (w.alloc (.cells cs 49)).alloc (.cells Z 49) := ⟨_, rfl⟩
    have hbx : Below w.heap.size w wx := by rw [hwx]; exact (by (repeat (first | exact Below.refl _ _ | apply Below.drew | apply below_drewN | (refine Below.alloc ?_ ?_ _) | (refine below_setRow ?_ ?_ _) | (refine Below.setCell ?_ ?_ _) | (refine Below.trans ?_ (Below.mono (by assumption) ?_)) | omega | (focus (simp; done)) | (focus (simp; omega)))))
    have hkx : Blk wx w.heap.size 49 cs := by rw [hwx]; exact (by (repeat (first | assumption | (apply Blk.newAt; (focus (simp; done))) | apply Blk.alloc | apply Blk.setRow | apply Blk.drewN | apply Blk.drew | (refine Blk.setRow_other ?_ ?_ _; focus (first | omega | (simp; omega))))))
    have hzx : Blk wx (w.heap.size + 1) 49 Z := by rw [hwx]; exact (by (repeat (first | assumption | (apply Blk.newAt; (focus (simp; done))) | apply Blk.alloc | apply Blk.setRow | apply Blk.drewN | apply Blk.drew | (refine Blk.setRow_other ?_ ?_ _; focus (first | omega | (simp; omega))))))
    have hgx : w.heap.size + 2 ≤ wx.heap.size := by rw [hwx]; simp
    rw [← hwx]
    clear hwx
    have Bx := Lib.hid hbx
    go_wp2_with (first
      | ((with_reducible apply l_loadw 49); (focus rfl); (focus (repeat (first | assumption | (apply Blk.newAt; (focus (simp; done))) | apply Blk.alloc | apply Blk.setRow | apply Blk.drewN | apply Blk.drew | (refine Blk.setRow_other ?_ ?_ _; focus (first | omega | (simp; omega)))))); (focus exact Try.underlying49); (focus rfl); (focus exact szState); (focus (first | exact omega | (first | omega | (simp; done) | (simp; omega) | assumption))); (try go_frame))
      | (go_at_call 24; refine (right_any cs L w.heap.size _ (by omega) ?_).mono ?_
         focus (exact (H.out.more hB).below Bx.out)
         rintro e w1 ⟨rfl, hb1⟩
         rw [HR.out]
         have hd1 : Below w.heap.size w w1 := Below.trans hbx (Below.mono hb1 (by omega))
         have hk1 : Blk w1 w.heap.size 49 cs := Blk.below hkx hb1 (by omega)
         have hz1 : Blk w1 (w.heap.size + 1) 49 Z := Blk.below hzx hb1 (by omega)
         have D1 := Lib.hid hd1
         clear hkx hzx hbx hb1
         have hcell := hk1.cell
         have hfz := hk1.frozen)
      | ((with_reducible apply l_build 49); (focus rfl); (focus exact hBu.out); (try go_frame))
      | ((with_reducible apply l_storew 49); (focus rfl); (focus rfl); (focus (repeat (first | assumption | (apply Blk.newAt; (focus (simp; done))) | apply Blk.alloc | apply Blk.setRow | apply Blk.drewN | apply Blk.drew | (refine Blk.setRow_other ?_ ?_ _; focus (first | omega | (simp; omega)))))); (focus exact szState); (focus (first | exact hS.out | (first | omega | (simp; done) | (simp; omega) | assumption))); (focus (first | omega | (simp; done) | (simp; omega) | assumption)); (focus exact hO.out); (focus (repeat (first | (apply setRow_eq_at; (focus (simp; done))) | (refine setRow_eq_past ?_ ?_; (focus (first | (simp; done) | omega | (simp; omega)))) | apply setRow_eq_drewN | apply setRow_eq_drew | rfl))); (try go_frame)))
    all_goals (first | (((with_reducible apply l_ret2); (focus rfl); (focus rfl); (focus rfl); (focus (repeat (first | assumption | (apply Blk.newAt; (focus (simp; done))) | apply Blk.alloc | apply Blk.setRow | apply Blk.drewN | apply Blk.drew | (refine Blk.setRow_other ?_ ?_ _; focus (first | omega | (simp; omega)))))); (focus exact Try.underlying49); (focus rfl); (focus exact szState); (focus (first | exact hS.out | (first | omega | (simp; done) | (simp; omega) | assumption))); (focus rfl)); exact ⟨rfl, below_setRow D1.out (by omega) _⟩) | (exfalso; fail))
  have m1 : (s % 4 != 3) = false := by rw [c2]; rfl
  have Hb : Hid (1152921504606846976 < all ∨ 1152921504606846976 < prev ∨ 1152921504606846976 < cur) := Lib.hid (by
    have := Hno.out
    rcases Int.lt_or_le 1152921504606846976 all with h | h
    · exact .inl h
    rcases Int.lt_or_le 1152921504606846976 prev with h2 | h2
    · exact .inr (.inl h2)
    rcases Int.lt_or_le 1152921504606846976 cur with h3 | h3
    · exact .inr (.inr h3)
    exact absurd ⟨c1, c2, h, h2, h3⟩ this)
  clear c1 c2
  case _ =>
    have m2 : Hid (1152921504606846976 < (if (if all < prev then prev else all) < cur then cur else if all < prev then prev else all)) := Lib.hid (by
      have := Hb.out
      split <;> split <;> omega)
    generalize (if (if all < prev then prev else all) < cur then cur else if all < prev then prev else all) = mx at *
    go_enter Try.func10, Try.ntmps10
    go_upto_region 1 with ((with_reducible apply l_alloc 49); (focus kernel_rfl); (try go_frame))
    simp only [World.size_alloc]
    rw [hzz.out]
    obtain ⟨wx, hwx⟩ : ∃ wx : World, wx = (w.alloc (.cells cs 49)).alloc (.cells Z 49) := ⟨_, rfl⟩
    have hbx : Below w.heap.size w wx := by rw [hwx]; exact (by (repeat (first | exact Below.refl _ _ | apply Below.drew | apply below_drewN | (refine Below.alloc ?_ ?_ _) | (refine below_setRow ?_ ?_ _) | (refine Below.setCell ?_ ?_ _) | (refine Below.trans ?_ (Below.mono (by assumption) ?_)) | omega | (focus (simp; done)) | (focus (simp; omega)))))
    have hkx : Blk wx w.heap.size 49 cs := by rw [hwx]; exact (by (repeat (first | assumption | (apply Blk.newAt; (focus (simp; done))) | apply Blk.alloc | apply Blk.setRow | apply Blk.drewN | apply Blk.drew | (refine Blk.setRow_other ?_ ?_ _; focus (first | omega | (simp; omega))))))
    have hzx : Blk wx (w.heap.size + 1) 49 Z := by rw [hwx]; exact (by (repeat (first | assumption | (apply Blk.newAt; (focus (simp; done))) | apply Blk.alloc | apply Blk.setRow | apply Blk.drewN | apply Blk.drew | (refine Blk.setRow_other ?_ ?_ _; focus (first | omega | (simp; omega))))))
    have hgx : w.heap.size + 2 ≤ wx.heap.size := by rw [hwx]; simp
    rw [← hwx]
    clear hwx
    have Bx := Lib.hid hbx
    go_wp2_with (first
      | ((with_reducible apply l_loadw 49); (focus rfl); (focus (repeat (first | assumption | (apply Blk.newAt; (focus (simp; done))) | apply Blk.alloc | apply Blk.setRow | apply Blk.drewN | apply Blk.drew | (refine Blk.setRow_other ?_ ?_ _; focus (first | omega | (simp; omega)))))); (focus exact Try.underlying49); (focus rfl); (focus exact szState); (focus (first | exact omega | (first | omega | (simp; done) | (simp; omega) | assumption))); (try go_frame))
      | (go_at_call 24; refine (right_any cs L w.heap.size _ (by omega) ?_).mono ?_
         focus (exact (H.out.more hB).below Bx.out)
         rintro e w1 ⟨rfl, hb1⟩
         rw [HR.out]
         have hd1 : Below w.heap.size w w1 := Below.trans hbx (Below.mono hb1 (by omega))
         have hk1 : Blk w1 w.heap.size 49 cs := Blk.below hkx hb1 (by omega)
         have hz1 : Blk w1 (w.heap.size + 1) 49 Z := Blk.below hzx hb1 (by omega)
         have D1 := Lib.hid hd1
         clear hkx hzx hbx hb1
         have hcell := hk1.cell
         have hfz := hk1.frozen)
      | ((with_reducible apply l_build 49); (focus rfl); (focus exact hBu.out); (try go_frame))
      | ((with_reducible apply l_storew 49); (focus rfl); (focus rfl); (focus (repeat (first | assumption | (apply Blk.newAt; (focus (simp; done))) | apply Blk.alloc | apply Blk.setRow | apply Blk.drewN | apply Blk.drew | (refine Blk.setRow_other ?_ ?_ _; focus (first | omega | (simp; omega)))))); (focus exact szState); (focus (first | exact hS.out | (first | omega | (simp; done) | (simp; omega) | assumption))); (focus (first | omega | (simp; done) | (simp; omega) | assumption)); (focus exact hO.out); (focus (repeat (first | (apply setRow_eq_at; (focus (simp; done))) | (refine setRow_eq_past ?_ ?_; (focus (first | (simp; done) | omega | (simp; omega)))) | apply setRow_eq_drewN | apply setRow_eq_drew | rfl))); (try go_frame)))
    all_goals (first | (((with_reducible apply l_ret2); (focus rfl); (focus rfl); (focus rfl); (focus (repeat (first | assumption | (apply Blk.newAt; (focus (simp; done))) | apply Blk.alloc | apply Blk.setRow | apply Blk.drewN | apply Blk.drew | (refine Blk.setRow_other ?_ ?_ _; focus (first | omega | (simp; omega)))))); (focus exact Try.underlying49); (focus rfl); (focus exact szState); (focus (first | exact hS.out | (first | omega | (simp; done) | (simp; omega) | assumption))); (focus rfl)); exact ⟨rfl, below_setRow D1.out (by omega) _⟩) | (exfalso; have := m2.out; have := Hb.out; first | omega | (split at * <;> omega)))

end Go.Proofs.Ytikbkcidalippaa
