/-
  JustJustifies walked: it answers yes.
-/
import Derived.Test.YtikbkcidalippaaRJustify
import Derived.Test.YtikbkcidalippaaWeighLaw
namespace Go.Proofs.Ytikbkcidalippaa
open Go.RowKit
attribute [local irreducible] Hid Blk
set_option maxRecDepth 100000

theorem allOf_alike {c d : Array Value} {L : Nat → List Value} (h : Alike c d) : allOf c L = allOf d L := by unfold allOf; rw [h.num 33 (by decide)]
theorem prevOf_alike {c d : Array Value} {L : Nat → List Value} (h : Alike c d) : prevOf c L = prevOf d L := by unfold prevOf; rw [h.num 33 (by decide)]
theorem curOf_alike {c d : Array Value} {L : Nat → List Value} (h : Alike c d) : curOf c L = curOf d L := by unfold curOf; rw [h.num 33 (by decide)]

/-- What Justify makes of the cells. -/
noncomputable def jusC (cs : Array Value) (L : Nat → List Value) : Array Value := if cN cs 33 / 4 ≤ 1 then cs else weighC cs (allOf cs L) (prevOf cs L) (curOf cs L)
theorem jus_alike {c d : Array Value} {L : Nat → List Value} (h : Alike c d) (h1 : WfC c) (h2 : WfC d) : Alike (jusC c L) (jusC d L) := by
  unfold jusC
  rw [h.num 33 (by decide), allOf_alike h, prevOf_alike h, curOf_alike h]
  split
  · exact h
  · exact h.weigh h1 h2 _ _ _
/-- just.Justify where it answers; pharosref22.Justify too. -/
theorem justify_go (cs : Array Value) (L : Nat → List Value) (B : Nat) (w : World) (hB : B ≤ w.heap.size) (h : IsSt w B cs L) (hr : RightP cs L) (hm : cN cs 33 % 4 = 3) :
    Calls Try.prog 14 #[.agg cs] w fun e w' => ∃ p, e = .returned (.tuple #[.agg p, .int .i64 0]) ∧ Alike p (jusC cs L) ∧ IsSt w' w'.heap.size p L ∧ Below w.heap.size w w' := by
  by_cases he : cN cs 33 / 4 ≤ 1
  · refine (justify_low cs L B w hB h hr hm he).mono ?_
    rintro e w' ⟨c', rfl, h1, h2, h3⟩
    exact ⟨c', rfl, by unfold jusC; rw [if_pos he]; exact h1, h2, h3⟩
  · refine (justify_ok cs L B w hB h hr hm (by omega)).mono ?_
    rintro e w' ⟨c', rfl, h1, h2, h3⟩
    exact ⟨_, rfl, by unfold jusC; rw [if_neg he]; exact Alike.weigh h1 h2.wf h.wf _ _ _, h2.weigh _ _ _, h3⟩
theorem rjustify_go (cs : Array Value) (L : Nat → List Value) (B : Nat) (w : World) (hB : B ≤ w.heap.size) (h : IsSt w B cs L) (hr : RightP cs L) (hm : cN cs 33 % 4 = 3) :
    Calls Try.prog 15 #[.agg cs] w fun e w' => ∃ p, e = .returned (.tuple #[.agg p, .int .i64 0]) ∧ Alike p (jusC cs L) ∧ IsSt w' w'.heap.size p L ∧ Below w.heap.size w w' := by
  by_cases he : cN cs 33 / 4 ≤ 1
  · refine (rjustify_low cs L B w hB h hr hm he).mono ?_
    rintro e w' ⟨c', rfl, h1, h2, h3⟩
    exact ⟨c', rfl, by unfold jusC; rw [if_pos he]; exact h1, h2, h3⟩
  · refine (rjustify_ok cs L B w hB h hr hm (by omega)).mono ?_
    rintro e w' ⟨c', rfl, h1, h2, h3⟩
    exact ⟨_, rfl, by unfold jusC; rw [if_neg he]; exact Alike.weigh h1 h2.wf h.wf _ _ _, h2.weigh _ _ _, h3⟩

set_option maxHeartbeats 4000000 in
theorem justifies_any (cs : Array Value) (L : Nat → List Value) (B : Nat) (w : World) (hB : B ≤ w.heap.size) (h : IsSt w B cs L) :
    Calls Try.prog 4 #[.agg cs] w fun e w' => e = .returned (.bool true) ∧ Below w.heap.size w w' := by
  have H := Lib.hid h
  have hsz1 : 1957 ≤ cs.size := Nat.le_of_eq h.wf.size.symm
  have hsz2 : cs.size ≤ 1957 := Nat.le_of_eq h.wf.size
  clear h
  go_enter Try.func4, Try.ntmps4
  go_upto_region 1 with fail
  obtain ⟨wx, hwx⟩ : ∃ wx : World, wx = w.alloc (.cells cs 49) := ⟨_, rfl⟩
  have hd : Below w.heap.size w wx := by rw [hwx]; exact (by (repeat (first | exact Below.refl _ _ | apply Below.drew | apply below_drewN | (refine Below.alloc ?_ ?_ _) | (refine below_setRow ?_ ?_ _) | (refine Below.setCell ?_ ?_ _) | (refine Below.trans ?_ (Below.mono (by assumption) ?_)) | omega | (focus (simp; done)) | (focus (simp; omega)))))
  have hk : Blk wx w.heap.size 49 cs := by rw [hwx]; exact (by (repeat (first | assumption | (apply Blk.newAt; (focus (simp; done))) | apply Blk.alloc | apply Blk.setRow | apply Blk.drewN | apply Blk.drew | (refine Blk.setRow_other ?_ ?_ _; focus (first | omega | (simp; omega))))))
  rw [← hwx]
  clear hwx
  have D0 := Lib.hid hd
  clear hd
  have hg := hk.lt
  go_upto_region 3 with (first
    | (go_at_call 8; refine (awake_any _).mono ?_; rintro e w1 ⟨rfl, hb1⟩; have hk1 := Blk.below hk hb1 hg; have D1 := Lib.hid (D0.out.trans (hb1.mono (by omega))); have hg1 := hk1.lt; clear hk hg hb1))
  go_upto_region 4 with (first
    | ((with_reducible apply l_loadw 49); (focus rfl); (focus (repeat (first | assumption | (apply Blk.newAt; (focus (simp; done))) | apply Blk.alloc | apply Blk.setRow | apply Blk.drewN | apply Blk.drew | (refine Blk.setRow_other ?_ ?_ _; focus (first | omega | (simp; omega)))))); (focus exact Try.underlying49); (focus rfl); (focus exact szState); (focus (first | exact omega | (first | omega | (simp; done) | (simp; omega) | assumption))); (try go_frame))
    | (go_at_call 9; refine (copy_any cs L w.heap.size _ (by omega) ((H.out.more hB).below D1.out)).mono ?_
       rintro e w2 ⟨cy, rfl, hcy, hst, -, hb2⟩
       have hk2 := Blk.below hk1 hb2 hg1
       have D2 := Lib.hid (D1.out.trans (hb2.mono (by omega)))
       have hg2 := hk2.lt
       have HY := Lib.hid (And.intro hcy hst)
       have hy1 : 1957 ≤ cy.size := Nat.le_of_eq hst.wf.size.symm
       have hy2 : cy.size ≤ 1957 := Nat.le_of_eq hst.wf.size
       have HYo := Lib.hid hst.wf.ones
       clear hk1 hg1 hb2 hcy hst)
    | ((with_reducible apply l_alloc 49); (focus kernel_rfl); (try go_frame))
    | ((with_reducible apply l_storew 49); (focus rfl); (focus rfl); (focus (repeat (first | assumption | (apply Blk.newAt; (focus (simp; done))) | apply Blk.alloc | apply Blk.setRow | apply Blk.drewN | apply Blk.drew | (refine Blk.setRow_other ?_ ?_ _; focus (first | omega | (simp; omega)))))); (focus exact szState); (focus (first | exact omega | (first | omega | (simp; done) | (simp; omega) | assumption))); (focus (first | omega | (simp; done) | (simp; omega) | assumption)); (focus exact HYo.out); (focus (repeat (first | (apply setRow_eq_at; (focus (simp; done))) | (refine setRow_eq_past ?_ ?_; (focus (first | (simp; done) | omega | (simp; omega)))) | apply setRow_eq_drewN | apply setRow_eq_drew | rfl))); (try go_frame)))
  obtain ⟨w3, hw3⟩ : ∃ x : World, x = w2.alloc (.cells cy 49) := ⟨_, rfl⟩
  have hk3 : Blk w3 w.heap.size 49 cs := by rw [hw3]; exact hk2.alloc _
  have hy3 : Blk w3 w2.heap.size 49 cy := by rw [hw3]; exact Blk.new _ _ _
  have HX : Hid (Below w2.heap.size w2 w3) := Lib.hid (by rw [hw3]; exact (Below.refl _ _).alloc (Nat.le_refl _) _)
  rw [← hw3]
  clear hw3 hk2
  have hg3 := hy3.lt
  have HSx : Hid (IsSt w2 w.heap.size cs L) := Lib.hid ((H.out.more hB).below D2.out)
  -- what both answer
  obtain ⟨p, LL, er, hP, hQ⟩ : ∃ (p : Array Value) (LL : Nat → List Value) (er : Int),
      (∀ (w' : World) (B' : Nat), B' ≤ w'.heap.size → IsSt w' B' cs L → Calls Try.prog 14 #[.agg cs] w' fun e w'' => ∃ p', e = .returned (.tuple #[.agg p', .int .i64 er]) ∧ Alike p' p ∧ IsSt w'' w''.heap.size p' LL ∧ Below w'.heap.size w' w'') ∧
      (∀ (w' : World) (B' : Nat), B' ≤ w'.heap.size → IsSt w' B' cy L → Calls Try.prog 15 #[.agg cy] w' fun e w'' => ∃ p', e = .returned (.tuple #[.agg p', .int .i64 er]) ∧ Alike p' p ∧ IsSt w'' w''.heap.size p' LL ∧ Below w'.heap.size w' w'') := by
    have hyl : Alike cy cs := HY.out.1
    have hyw := HY.out.2.wf
    have e33 := hyl.num 33 (by decide)
    have hR : RightP cy L ↔ RightP cs L := right_alike hyl hyw.size H.out.wf.size
    by_cases good : RightP cs L ∧ cN cs 33 % 4 = 3
    · obtain ⟨g1, g2⟩ := good
      refine ⟨jusC cs L, L, 0, fun w' B' hB' hs => justify_go cs L B' w' hB' hs g1 g2, fun w' B' hB' hs => ?_⟩
      refine (rjustify_go cy L B' w' hB' hs (hR.2 g1) (by rw [e33]; exact g2)).mono ?_
      rintro e w'' ⟨p', rfl, h1, h2, h3⟩
      exact ⟨_, rfl, fun i hi => (h1 i hi).trans (jus_alike hyl hyw H.out.wf i hi), h2, h3⟩
    · refine ⟨zst, fun _ => [], 1, fun w' B' hB' hs => ?_, fun w' B' hB' hs => ?_⟩
      · refine (justify_err cs L B' w' hB' hs good).mono ?_
        rintro e w'' ⟨rfl, h3⟩
        exact ⟨_, rfl, fun _ _ => rfl, zst_is _ _, h3⟩
      · refine (rjustify_err cy L B' w' hB' hs (fun h => good ⟨hR.1 h.1, by rw [← e33]; exact h.2⟩)).mono ?_
        rintro e w'' ⟨rfl, h3⟩
        exact ⟨_, rfl, fun _ _ => rfl, zst_is _ _, h3⟩
  have HP := Lib.hid hP
  have HQ := Lib.hid hQ
  clear hP hQ
  go_upto_region 5 with (first
    | ((with_reducible apply l_loadw 49); (focus rfl); (focus (repeat (first | assumption | (apply Blk.newAt; (focus (simp; done))) | apply Blk.alloc | apply Blk.setRow | apply Blk.drewN | apply Blk.drew | (refine Blk.setRow_other ?_ ?_ _; focus (first | omega | (simp; omega)))))); (focus exact Try.underlying49); (focus rfl); (focus exact szState); (focus (first | exact omega | (first | omega | (simp; done) | (simp; omega) | assumption))); (try go_frame))
    | (go_at_call 14; refine (HP.out _ w.heap.size (by omega) (HSx.out.below (HX.out.mono (by omega)))).mono ?_
       rintro e w4 ⟨p1, rfl, hl1, hst1, hb4⟩
       have hk4 := Blk.below hk3 hb4 (by omega)
       have hy4 := Blk.below hy3 hb4 (by omega)
       have X4 := Lib.hid (HX.out.trans (hb4.mono (by omega)))
       have hg4 := hb4.size
       have S1 := Lib.hid (And.intro hl1 hst1)
       have hp1 : 1957 ≤ p1.size := Nat.le_of_eq hst1.wf.size.symm
       have hp2 : p1.size ≤ 1957 := Nat.le_of_eq hst1.wf.size
       have Hp1 := Lib.hid hst1.wf.ones
       clear hk3 hy3 hb4 hl1 hst1)
    | ((with_reducible apply l_alloc 49); (focus kernel_rfl); (try go_frame))
    | ((with_reducible apply l_storew 49); (focus rfl); (focus rfl); (focus (repeat (first | assumption | (apply Blk.newAt; (focus (simp; done))) | apply Blk.alloc | apply Blk.setRow | apply Blk.drewN | apply Blk.drew | (refine Blk.setRow_other ?_ ?_ _; focus (first | omega | (simp; omega)))))); (focus exact szState); (focus (first | exact omega | (first | omega | (simp; done) | (simp; omega) | assumption))); (focus (first | omega | (simp; done) | (simp; omega) | assumption)); (focus exact Hp1.out); (focus (repeat (first | (apply setRow_eq_at; (focus (simp; done))) | (refine setRow_eq_past ?_ ?_; (focus (first | (simp; done) | omega | (simp; omega)))) | apply setRow_eq_drewN | apply setRow_eq_drew | rfl))); (try go_frame)))
  obtain ⟨w5, hw5⟩ : ∃ x : World, x = w4.alloc (.cells p1 49) := ⟨_, rfl⟩
  have hk5 : Blk w5 w.heap.size 49 cs := by rw [hw5]; exact hk4.alloc _
  have hy5 : Blk w5 w2.heap.size 49 cy := by rw [hw5]; exact hy4.alloc _
  have hp5 : Blk w5 w4.heap.size 49 p1 := by rw [hw5]; exact Blk.new _ _ _
  have X5 : Hid (Below w2.heap.size w2 w5 ∧ Below w4.heap.size w4 w5) := Lib.hid (by rw [hw5]; exact ⟨X4.out.alloc (by omega) _, (Below.refl _ _).alloc (Nat.le_refl _) _⟩)
  rw [← hw5]
  clear hw5 hk4 hy4 X4
  have hg5 := hp5.lt
  go_upto_region 6 with (first
    | ((with_reducible apply l_loadw 49); (focus rfl); (focus (repeat (first | assumption | (apply Blk.newAt; (focus (simp; done))) | apply Blk.alloc | apply Blk.setRow | apply Blk.drewN | apply Blk.drew | (refine Blk.setRow_other ?_ ?_ _; focus (first | omega | (simp; omega)))))); (focus exact Try.underlying49); (focus rfl); (focus exact szState); (focus (first | exact omega | (first | omega | (simp; done) | (simp; omega) | assumption))); (try go_frame))
    | (go_at_call 15; refine (HQ.out _ w2.heap.size (by omega) (HY.out.2.below X5.out.1)).mono ?_
       rintro e w6 ⟨q1, rfl, hl1, hst1, hb6⟩
       have hk6 := Blk.below hk5 hb6 (by omega)
       have hy6 := Blk.below hy5 hb6 (by omega)
       have hp6 := Blk.below hp5 hb6 (by omega)
       have X6 := Lib.hid (And.intro (X5.out.1.trans (hb6.mono (by omega))) (X5.out.2.trans (hb6.mono (by omega))))
       have hg6 := hb6.size
       have S2 := Lib.hid (And.intro hl1 hst1)
       have hq1 : 1957 ≤ q1.size := Nat.le_of_eq hst1.wf.size.symm
       have hq2 : q1.size ≤ 1957 := Nat.le_of_eq hst1.wf.size
       have Hq1 := Lib.hid hst1.wf.ones
       clear hk5 hy5 hp5 hb6 hl1 hst1)
    | ((with_reducible apply l_alloc 49); (focus kernel_rfl); (try go_frame))
    | ((with_reducible apply l_storew 49); (focus rfl); (focus rfl); (focus (repeat (first | assumption | (apply Blk.newAt; (focus (simp; done))) | apply Blk.alloc | apply Blk.setRow | apply Blk.drewN | apply Blk.drew | (refine Blk.setRow_other ?_ ?_ _; focus (first | omega | (simp; omega)))))); (focus exact szState); (focus (first | exact omega | (first | omega | (simp; done) | (simp; omega) | assumption))); (focus (first | omega | (simp; done) | (simp; omega) | assumption)); (focus exact Hq1.out); (focus (repeat (first | (apply setRow_eq_at; (focus (simp; done))) | (refine setRow_eq_past ?_ ?_; (focus (first | (simp; done) | omega | (simp; omega)))) | apply setRow_eq_drewN | apply setRow_eq_drew | rfl))); (try go_frame)))
  obtain ⟨w7, hw7⟩ : ∃ x : World, x = w6.alloc (.cells q1 49) := ⟨_, rfl⟩
  have hk7 : Blk w7 w.heap.size 49 cs := by rw [hw7]; exact hk6.alloc _
  have hy7 : Blk w7 w2.heap.size 49 cy := by rw [hw7]; exact hy6.alloc _
  have hp7 : Blk w7 w4.heap.size 49 p1 := by rw [hw7]; exact hp6.alloc _
  have hq7 : Blk w7 w6.heap.size 49 q1 := by rw [hw7]; exact Blk.new _ _ _
  have X7 : Hid (Below w2.heap.size w2 w7 ∧ Below w4.heap.size w4 w7 ∧ Below w6.heap.size w6 w7) := Lib.hid (by rw [hw7]; exact ⟨X6.out.1.alloc (by omega) _, X6.out.2.alloc (by omega) _, (Below.refl _ _).alloc (Nat.le_refl _) _⟩)
  rw [← hw7]
  clear hw7 hk6 hy6 hp6 X6
  have hg7 := hq7.lt
  have E1 : Hid (encB p1 LL = encB q1 LL) := Lib.hid (encB_congr (by rw [S1.out.2.wf.size, S2.out.2.wf.size]) fun i hi => (S1.out.1 i hi).trans (S2.out.1 i hi).symm)
  have E2 : Hid (encB cs L = encB cy L) := Lib.hid (encB_congr (by rw [H.out.wf.size, HY.out.2.wf.size]) fun i hi => (HY.out.1 i hi).symm)
  have I1 : Hid (IsSt w7 w4.heap.size p1 LL) := Lib.hid (S1.out.2.below X7.out.2.1)
  have I2 : Hid (IsSt w7 w6.heap.size q1 LL) := Lib.hid (S2.out.2.below X7.out.2.2)
  have I3 : Hid (IsSt w7 w.heap.size cs L) := Lib.hid (HSx.out.below (X7.out.1.mono (by omega)))
  have I4 : Hid (IsSt w7 w2.heap.size cy L) := Lib.hid (HY.out.2.below X7.out.1)
  have D7 : Hid (Below w.heap.size w w7) := Lib.hid (D2.out.trans (X7.out.1.mono (by omega)))
  clear S1 S2 X7 HSx
  go_upto_region 7 with (first
    | ((with_reducible apply o_loadw 49); (focus rfl); (focus (repeat (first | assumption | (apply Blk.newAt; (focus (simp; done))) | apply Blk.alloc | apply Blk.setRow | apply Blk.drewN | apply Blk.drew | (refine Blk.setRow_other ?_ ?_ _; focus (first | omega | (simp; omega)))))); (focus exact Try.underlying49); (focus rfl); (focus exact szState); (focus (first | omega | (simp; done) | (simp; omega) | assumption)); (try simp only [Act.put, List.setIfInBounds_toArray, List.set_cons_zero, List.set_cons_succ]))
    | ((with_reducible apply l_loadw 49); (focus rfl); (focus (repeat (first | assumption | (apply Blk.newAt; (focus (simp; done))) | apply Blk.alloc | apply Blk.setRow | apply Blk.drewN | apply Blk.drew | (refine Blk.setRow_other ?_ ?_ _; focus (first | omega | (simp; omega)))))); (focus exact Try.underlying49); (focus rfl); (focus exact szState); (focus (first | exact omega | (first | omega | (simp; done) | (simp; omega) | assumption))); (try go_frame))
    | (go_at_call 12; refine (told_yes p1 q1 LL w4.heap.size w6.heap.size _ (by omega) (by omega) I1.out I2.out E1.out er).mono ?_
       rintro e w8 ⟨rfl, hb8⟩
       have hk8 := Blk.below hk7 hb8 (by omega)
       have hy8 := Blk.below hy7 hb8 (by omega)
       have hg8 := hb8.size
       have X8 := Lib.hid hb8
       clear hk7 hy7 hp7 hq7 hb8)
    | (go_at_call 13; refine (same10_yes cs cy L w.heap.size w2.heap.size _ (by omega) (by omega) (I3.out.below (X8.out.mono (by omega))) (I4.out.below (X8.out.mono (by omega))) E2.out).mono ?_
       rintro e w9 ⟨rfl, hb9⟩
       have D9 := Lib.hid (D7.out.trans ((X8.out.trans (hb9.mono (by omega))).mono (by omega)))
       clear hb9 hk8 hy8))
  go_wp2
  go_ret
  exact ⟨rfl, D9.out⟩
end Go.Proofs.Ytikbkcidalippaa
