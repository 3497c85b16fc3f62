/-
  JustOrders walked: it answers yes.
-/
import Derived.Test.YtikbkcidalippaaOrders
namespace Go.Proofs.Ytikbkcidalippaa
open Go.RowKit
attribute [local irreducible] Hid Blk
set_option maxRecDepth 100000

set_option maxHeartbeats 4000000 in
theorem orders_bad (cs : Array Value) (L : Nat → List Value) (B : Nat) (w : World) (hB : B ≤ w.heap.size) (h : IsSt w B cs L) (hno : ¬ (RightP cs L ∧ cN cs 33 % 4 = 3)) :
    Calls Try.prog 7 #[.agg cs] w fun e w' => e = .returned (.bool true) ∧ Below w.heap.size w w' := by
  have H := Lib.hid h
  have HN := Lib.hid hno
  have hsz1 : 1957 ≤ cs.size := Nat.le_of_eq h.wf.size.symm
  have hsz2 : cs.size ≤ 1957 := Nat.le_of_eq h.wf.size
  have hS := Lib.hid zst_size
  have hZs1 : 1957 ≤ zst.size := Nat.le_of_eq zst_size.symm
  have hZs2 : zst.size ≤ 1957 := Nat.le_of_eq zst_size
  have hO := Lib.hid zst_wf.ones
  have HR : Hid ((rightB cs L && (cN cs 33 % 4 == 3)) = false) := Lib.hid (by
    cases hb : (rightB cs L && (cN cs 33 % 4 == 3))
    · rfl
    · simp only [Bool.and_eq_true, beq_iff_eq] at hb
      exact absurd ⟨rightB_iff.1 hb.1, hb.2⟩ hno)
  clear h hno
  go_enter Try.func7, Try.ntmps7
  go_upto_region 1 with fail
  obtain ⟨wx, hwx⟩ : ∃ wx : World, wx = w.alloc (.cells cs 49) := ⟨_, rfl⟩
  have hd : Below w.heap.size w wx := by rw [hwx]; exact (by (repeat (first | exact Below.refl _ _ | apply Below.drew | apply below_drewN | (refine Below.alloc ?_ ?_ _) | (refine below_setRow ?_ ?_ _) | (refine Below.setCell ?_ ?_ _) | (refine Below.trans ?_ (Below.mono (by assumption) ?_)) | omega | (focus (simp; done)) | (focus (simp; omega)))))
  have hk : Blk wx w.heap.size 49 cs := by rw [hwx]; exact (by (repeat (first | assumption | (apply Blk.newAt; (focus (simp; done))) | apply Blk.alloc | apply Blk.setRow | apply Blk.drewN | apply Blk.drew | (refine Blk.setRow_other ?_ ?_ _; focus (first | omega | (simp; omega))))))
  rw [← hwx]
  clear hwx
  have D0 := Lib.hid hd
  clear hd
  have hg := hk.lt
  go_upto_region 3 with (first
    | (go_at_call 8; refine (awake_any _).mono ?_; rintro e w1 ⟨rfl, hb1⟩; have hk1 := Blk.below hk hb1 hg; have D1 := Lib.hid (D0.out.trans (hb1.mono (by omega))); have hg1 := hk1.lt; clear hk hg hb1))
  go_upto_region 4 with (first
    | ((with_reducible apply l_loadw 49); (focus rfl); (focus (repeat (first | assumption | (apply Blk.newAt; (focus (simp; done))) | apply Blk.alloc | apply Blk.setRow | apply Blk.drewN | apply Blk.drew | (refine Blk.setRow_other ?_ ?_ _; focus (first | omega | (simp; omega)))))); (focus exact Try.underlying49); (focus rfl); (focus exact szState); (focus (first | exact omega | (first | omega | (simp; done) | (simp; omega) | assumption))); (try go_frame))
    | (go_at_call 14; refine (justify_err cs L w.heap.size _ (by omega) ((H.out.more hB).below D1.out) HN.out).mono ?_
       rintro e w2 ⟨rfl, hb2⟩
       have hk2 := Blk.below hk1 hb2 hg1
       have D2 := Lib.hid (D1.out.trans (hb2.mono (by omega)))
       have hg2 := hk2.lt
       clear hk1 hg1 hb2)
    | ((with_reducible apply l_alloc 49); (focus kernel_rfl); (try go_frame))
    | ((with_reducible apply l_storew 49); (focus rfl); (focus rfl); (focus (repeat (first | assumption | (apply Blk.newAt; (focus (simp; done))) | apply Blk.alloc | apply Blk.setRow | apply Blk.drewN | apply Blk.drew | (refine Blk.setRow_other ?_ ?_ _; focus (first | omega | (simp; omega)))))); (focus exact szState); (focus (first | exact hS.out | (first | omega | (simp; done) | (simp; omega) | assumption))); (focus (first | omega | (simp; done) | (simp; omega) | assumption)); (focus exact hO.out); (focus (repeat (first | (apply setRow_eq_at; (focus (simp; done))) | (refine setRow_eq_past ?_ ?_; (focus (first | (simp; done) | omega | (simp; omega)))) | apply setRow_eq_drewN | apply setRow_eq_drew | rfl))); (try go_frame)))
  obtain ⟨w3, hw3⟩ : ∃ x : World, x = w2.alloc (.cells zst 49) := ⟨_, rfl⟩
  have hk3 : Blk w3 w.heap.size 49 cs := by rw [hw3]; exact hk2.alloc _
  have D3 : Hid (Below w.heap.size w w3) := Lib.hid (by rw [hw3]; exact D2.out.alloc (by omega) _)
  rw [← hw3]
  have hg3 := hk3.lt
  clear hw3 hk2 hg2
  go_wp2_with (first
    | ((with_reducible apply l_loadw 49); (focus rfl); (focus (repeat (first | assumption | (apply Blk.newAt; (focus (simp; done))) | apply Blk.alloc | apply Blk.setRow | apply Blk.drewN | apply Blk.drew | (refine Blk.setRow_other ?_ ?_ _; focus (first | omega | (simp; omega)))))); (focus exact Try.underlying49); (focus rfl); (focus exact szState); (focus (first | exact omega | (first | omega | (simp; done) | (simp; omega) | assumption))); (try go_frame))
    | (go_at_call 19; refine (rend_any cs L w.heap.size _ (by omega) ((H.out.more hB).below D3.out)).mono ?_
       rintro e w4 ⟨rfl, hb4⟩
       rw [HR.out]
       have D4 := Lib.hid (D3.out.trans (hb4.mono (by omega)))
       clear hb4 hk3))
  go_ret
  exact ⟨rfl, D4.out⟩
theorem orders_any (cs : Array Value) (L : Nat → List Value) (B : Nat) (w : World) (hB : B ≤ w.heap.size) (h : IsSt w B cs L) :
    Calls Try.prog 7 #[.agg cs] w fun e w' => e = .returned (.bool true) ∧ Below w.heap.size w w' := by
  by_cases good : RightP cs L ∧ cN cs 33 % 4 = 3
  · exact orders_good cs L B w hB h good.1 good.2
  · exact orders_bad cs L B w hB h good
end Go.Proofs.Ytikbkcidalippaa
