/-
  pharosref10.EncState: walked.
-/
import Derived.Test.YtikbkcidalippaaEncDef
import Derived.Test.YtikbkcidalippaaRefBase
namespace Go.Proofs.Ytikbkcidalippaa
open Go.RowKit
attribute [local irreducible] Hid Blk
set_option maxRecDepth 100000

theorem szFork : (Try.prog.info? 28).map (·.size) = some 9 := by kernel_rfl
theorem szHeader : (Try.prog.info? 30).map (·.size) = some 98 := by kernel_rfl
theorem szEth1 : (Try.prog.info? 34).map (·.size) = some 65 := by kernel_rfl
theorem szValr : (Try.prog.info? 82).map (·.size) = some 86 := by kernel_rfl
theorem szCheckpoint : (Try.prog.info? 42).map (·.size) = some 33 := by kernel_rfl
theorem szCommittee : (Try.prog.info? 47).map (·.size) = some 432 := by kernel_rfl

set_option maxHeartbeats 16000000 in
theorem encst_any (cs : Array Value) (L : Nat → List Value) (B : Nat) (w : World) (hB : B ≤ w.heap.size) (h : IsSt w B cs L) :
    Calls Try.prog 30 #[.agg cs] w (EncPost w cs L) := by
  obtain ⟨i0, z0, hi, hz0, hz1, hz2, hz3⟩ := info8
  have HI := Lib.hid (And.intro hi (And.intro hz0 (And.intro hz1 hz2)))
  have HZ := Lib.hid hz3
  have H := Lib.hid h
  have HO := Lib.hid h.wf.ones
  have hsz1 : 1957 ≤ cs.size := Nat.le_of_eq h.wf.size.symm
  clear hi hz0 hz1 hz2 hz3 h
  go_enter Try.func30, Try.ntmps30
  go_upto_region 26 with fail
  obtain ⟨wx, hwx⟩ : ∃ wx : World, wx = w.alloc (.cells cs 49) := ⟨_, rfl⟩
  have D0 : Hid (Below w.heap.size w wx) := Lib.hid (by rw [hwx]; exact (by (repeat (first | exact Below.refl _ _ | apply Below.drew | apply below_drewN | (refine Below.alloc ?_ ?_ _) | (refine below_setRow ?_ ?_ _) | (refine Below.setCell ?_ ?_ _) | (refine Below.trans ?_ (Below.mono (by assumption) ?_)) | omega | (focus (simp; done)) | (focus (simp; omega))))))
  have K0 : Hid (Blk wx w.heap.size 49 cs) := Lib.hid (by rw [hwx]; exact (by (repeat (first | assumption | (apply Blk.newAt; (focus (simp; done))) | apply Blk.alloc | apply Blk.setRow | apply Blk.drewN | apply Blk.drew | (refine Blk.setRow_other ?_ ?_ _; focus (first | omega | (simp; omega)))))))
  rw [← hwx]
  clear hwx
  have hg0 := K0.out.lt
  have D := Lib.hid (Below.refl wx.heap.size wx)
  have R : Hid (∀ q ∈ ([] : List Pt), q.fit wx) := Lib.hid fun _ h => nomatch h
  have hgd : wx.heap.size ≤ wx.heap.size := Nat.le_refl _
  -- part 0
  have hk := Blk.below K0.out D.out hg0
  have hcell := hk.cell
  have hv := (H.out.wf.u64 0 rfl).1
  have hw := Lib.hid (H.out.wf.u64 0 rfl).2
  go_upto_region 27 with (first
    | (go_at_call 45; refine (number10 (cN cs 0) hw.out _).mono ?_
       rintro e w0 ⟨v, rfl, hown, hb1⟩
       obtain ⟨a0, c0, rfl⟩ := own_form hown
       clear hcell hv hw
       replace hown : w0.ownsRow wx.heap.size 5 1 (.slice a0 8 c0) 8 (encP cs L 0) := hown
       have R2 : Hid (∀ q ∈ ([⟨a0, 8, c0, 8, encP cs L 0⟩] : List Pt), q.fit w0) := Lib.hid (by have t := fits_snoc (p := ⟨a0, 8, c0, 8, encP cs L 0⟩) R.out hb1 (fit_mk (SlR.own (bytes := 1) hown (by decide)) (num8_ones _) (fun _ => rfl) (by decide) (by decide)); exact t)
       have D2 := Lib.hid (D.out.trans (hb1.mono (by omega)))
       clear R D hgd hown hb1 hk
       have R := R2
       have D := D2
       clear R2 D2
       have hgd := D.out.size
       skip))
  -- part 1
  have hk := Blk.below K0.out D.out hg0
  go_upto_region 28 with ((at_builtin; (with_reducible apply l_append 39 w0.heap.size); (focus exact Try.underlying39); (focus exact HI.out.1); (focus exact HI.out.2.1); (focus exact HI.out.2.2.1); (focus exact HI.out.2.2.2); (focus (first | rfl | exact HZ.out)); (focus decide); (focus rfl); (focus exact (ownsRow_empty _ _ _ (Nat.le_refl _))); (focus rfl); (focus exact ((slr_blk hk 1 32 1 (by omega) (by decide) (by decide) _ rfl).alloc (by omega) _)); (focus exact (ext_ones HO.out 1 32)); (focus (first | omega | (simp; omega))); (focus (first | omega | (simp; omega))); (focus (first | omega | (simp; done) | (simp; omega)))))
  intro v w1 hown hgw
  simp only [Nat.zero_add, List.nil_append] at hown
  obtain ⟨a1, c1, rfl⟩ := own_form hown
  have hb1 : Below w0.heap.size w0 w1 := ((Below.refl _ _).alloc (Nat.le_refl _) _).grown hgw (by simp) (fun k hk => by
    have h : some w0.heap.size = some k := hk
    exact Nat.le_of_eq (Option.some.inj h))
  clear hgw
  replace hown : w1.ownsRow w0.heap.size 5 1 (.slice a1 32 c1) 32 (encP cs L 1) := hown
  have R2 : Hid (∀ q ∈ ([⟨a0, 8, c0, 8, encP cs L 0⟩, ⟨a1, 32, c1, 32, encP cs L 1⟩] : List Pt), q.fit w1) := Lib.hid (by have t := fits_snoc (p := ⟨a1, 32, c1, 32, encP cs L 1⟩) R.out hb1 (fit_mk (SlR.own (bytes := 1) hown (by decide)) (ext_ones HO.out _ _) (fun _ => rfl) (by decide) (by decide)); exact t)
  have D2 := Lib.hid (D.out.trans (hb1.mono (by omega)))
  clear R D hgd hown hb1 hk
  have R := R2
  have D := D2
  clear R2 D2
  have hgd := D.out.size
  go_upto_region 28 with fail
  -- part 2
  have hk := Blk.below K0.out D.out hg0
  have hcell := hk.cell
  have hv := (H.out.wf.u64 33 rfl).1
  have hw := Lib.hid (H.out.wf.u64 33 rfl).2
  go_upto_region 29 with (first
    | (go_at_call 45; refine (number10 (cN cs 33) hw.out _).mono ?_
       rintro e w2 ⟨v, rfl, hown, hb1⟩
       obtain ⟨a2, c2, rfl⟩ := own_form hown
       clear hcell hv hw
       replace hown : w2.ownsRow w1.heap.size 5 1 (.slice a2 8 c2) 8 (encP cs L 2) := hown
       have R2 : Hid (∀ q ∈ ([⟨a0, 8, c0, 8, encP cs L 0⟩, ⟨a1, 32, c1, 32, encP cs L 1⟩, ⟨a2, 8, c2, 8, encP cs L 2⟩] : List Pt), q.fit w2) := Lib.hid (by have t := fits_snoc (p := ⟨a2, 8, c2, 8, encP cs L 2⟩) R.out hb1 (fit_mk (SlR.own (bytes := 1) hown (by decide)) (num8_ones _) (fun _ => rfl) (by decide) (by decide)); exact t)
       have D2 := Lib.hid (D.out.trans (hb1.mono (by omega)))
       clear R D hgd hown hb1 hk
       have R := R2
       have D := D2
       clear R2 D2
       have hgd := D.out.size
       skip))
  -- part 3
  have hk := Blk.below K0.out D.out hg0
  go_upto_region 32 with (first
    | ((with_reducible apply l_load 28); (focus rfl); (focus (repeat (first | assumption | (apply Blk.newAt; (focus (simp; done))) | apply Blk.alloc | apply Blk.setRow | apply Blk.drewN | apply Blk.drew | (refine Blk.setRow_other ?_ ?_ _; focus (first | omega | (simp; omega)))))); (focus exact Try.underlying28); (focus rfl); (focus exact szFork); (focus (first | omega | (simp; done) | (simp; omega) | assumption)); (try go_frame))
    | (go_at_call 46; refine (encFork_any (cs.extract 34 (34 + 9)) (cN cs 42) _ (size_extract_of (by omega)) (ones_extract HO.out _ _) ((ext_get (by decide) (by omega)).trans (H.out.wf.u64 42 rfl).1) (H.out.wf.u64 42 rfl).2).mono ?_
       rintro e w3 ⟨v, rfl, hown, hb1⟩
       obtain ⟨a3, c3, rfl⟩ := own_form hown
       replace hown : w3.ownsRow w2.heap.size 5 1 (.slice a3 16 c3) 16 (encP cs L 3) := hown
       have R2 : Hid (∀ q ∈ ([⟨a0, 8, c0, 8, encP cs L 0⟩, ⟨a1, 32, c1, 32, encP cs L 1⟩, ⟨a2, 8, c2, 8, encP cs L 2⟩, ⟨a3, 16, c3, 16, encP cs L 3⟩] : List Pt), q.fit w3) := Lib.hid (by have t := fits_snoc (p := ⟨a3, 16, c3, 16, encP cs L 3⟩) R.out hb1 (fit_mk (SlR.own (bytes := 1) hown (by decide)) (encFork_ones (ones_extract HO.out _ _) _) (fun _ => rfl) (by decide) (by decide)); exact t)
       have D2 := Lib.hid (D.out.trans (hb1.mono (by omega)))
       clear R D hgd hown hb1 hk
       have R := R2
       have D := D2
       clear R2 D2
       have hgd := D.out.size
       skip))
  -- part 4
  have hk := Blk.below K0.out D.out hg0
  go_upto_region 35 with (first
    | ((with_reducible apply l_load 30); (focus rfl); (focus (repeat (first | assumption | (apply Blk.newAt; (focus (simp; done))) | apply Blk.alloc | apply Blk.setRow | apply Blk.drewN | apply Blk.drew | (refine Blk.setRow_other ?_ ?_ _; focus (first | omega | (simp; omega)))))); (focus exact Try.underlying30); (focus rfl); (focus exact szHeader); (focus (first | omega | (simp; done) | (simp; omega) | assumption)); (try go_frame))
    | (go_at_call 47; refine (encHead_any (cs.extract 43 (43 + 98)) (cN cs 43) (cN cs 44) _ (size_extract_of (by omega)) (ones_extract HO.out _ _) ((ext_get (by decide) (by omega)).trans (H.out.wf.u64 43 rfl).1) (H.out.wf.u64 43 rfl).2 ((ext_get (by decide) (by omega)).trans (H.out.wf.u64 44 rfl).1) (H.out.wf.u64 44 rfl).2).mono ?_
       rintro e w4 ⟨v, rfl, hown, hb1⟩
       obtain ⟨a4, c4, rfl⟩ := own_form hown
       replace hown : w4.ownsRow w3.heap.size 5 1 (.slice a4 112 c4) 112 (encP cs L 4) := hown
       have R2 : Hid (∀ q ∈ ([⟨a0, 8, c0, 8, encP cs L 0⟩, ⟨a1, 32, c1, 32, encP cs L 1⟩, ⟨a2, 8, c2, 8, encP cs L 2⟩, ⟨a3, 16, c3, 16, encP cs L 3⟩, ⟨a4, 112, c4, 112, encP cs L 4⟩] : List Pt), q.fit w4) := Lib.hid (by have t := fits_snoc (p := ⟨a4, 112, c4, 112, encP cs L 4⟩) R.out hb1 (fit_mk (SlR.own (bytes := 1) hown (by decide)) (encHead_ones (ones_extract HO.out _ _) _ _) (fun _ => rfl) (by decide) (by decide)); exact t)
       have D2 := Lib.hid (D.out.trans (hb1.mono (by omega)))
       clear R D hgd hown hb1 hk
       have R := R2
       have D := D2
       clear R2 D2
       have hgd := D.out.size
       skip))
  -- part 5
  have hk := Blk.below K0.out D.out hg0
  clear hk
  go_wp2
  go_loopw [10, 29] (fun vo i w5 => ∃ k : Nat, k ≤ 8 ∧ i = .int .i64 k ∧ Hid (w5.ownsRow w4.heap.size 5 1 vo (k * 32) (cs.extract 141 (141 + k * 32)).toList) ∧ Hid (Below w4.heap.size w4 w5)) (fun _ i _ => 8 - (intOf i).toNat)
  case atStart => exact ⟨0, by omega, rfl, Lib.hid (by simpa using World.ownsRow_nil _ _ _ _), Lib.hid (Below.refl _ _)⟩
  obtain ⟨k, hk8, rfl, ho, hb⟩ := hrel
  have hgr := hb.out.size
  obtain ⟨a5, c5, rfl⟩ := own_form ho.out
  have h48 : k * 32 ≤ 256 := by omega
  have hsB := SlR.own (bytes := 1) ho.out (Nat.le_trans (Nat.le_of_eq (Nat.mul_one _)) (Nat.le_trans h48 (by decide)))
  by_cases hlt : k < 8
  · have hk := Blk.below (Blk.below K0.out D.out hg0) hb.out (by omega)
    have T1 := slr_blk hk (141 + k * 32) 32 1 (by omega) (by decide) (by decide) _ rfl
    have T2 := Lib.hid T1
    clear T1
    go_upto_region 41 with ((at_builtin; (with_reducible apply l_append 39 wr.heap.size); (focus exact Try.underlying39); (focus exact HI.out.1); (focus exact HI.out.2.1); (focus exact HI.out.2.2.1); (focus exact HI.out.2.2.2); (focus (first | rfl | exact HZ.out)); (focus decide); (focus rfl); (focus exact (ownsRow_empty _ _ _ (Nat.le_refl _))); (focus rfl); (focus exact ((slr_blk hk (141 + k * 32) 32 1 (by omega) (by decide) (by decide) _ rfl).alloc (by omega) _)); (focus exact (ext_ones HO.out (141 + k * 32) 32)); (focus (first | omega | (simp; omega))); (focus (first | omega | (simp; omega))); (focus (first | omega | (simp; done) | (simp; omega)))))
    intro v1 x1 hown hgw
    simp only [Nat.zero_add, List.nil_append] at hown
    obtain ⟨a1x, c1x, rfl⟩ := own_form hown
    have hb1 : Below wr.heap.size wr x1 := ((Below.refl _ _).alloc (Nat.le_refl _) _).grown hgw (by simp) (fun k hk => by
      have h : some wr.heap.size = some k := hk
      exact Nat.le_of_eq (Option.some.inj h))
    have hs1 := Lib.hid (SlR.own (bytes := 1) hown (by decide))
    have ho1 := Lib.hid (own_blk ho.out hb1)
    have hB1 := Lib.hid (hb.out.trans (hb1.mono (by omega)))
    have hg1 := hB1.out.size
    clear hown hgw hb1 hk
    go_wp2_with ((at_builtin; (with_reducible apply l_append2 39 w4.heap.size); (focus exact Try.underlying39); (focus exact HI.out.1); (focus exact HI.out.2.1); (focus exact HI.out.2.2.1); (focus exact HI.out.2.2.2); (focus (first | rfl | exact HZ.out)); (focus decide); (focus rfl); (focus exact ho1.out); (focus rfl); (focus exact hs1.out); (focus exact (ext_ones HO.out (141 + k * 32) 32)); (focus (first | omega | (simp; omega))); (focus (first | omega | (simp; omega))); (focus (first | omega | (simp; done) | (simp; omega)))))
    intro v2 x2 hown hg hat
    have ho2 := Lib.hid hown
    have hb2 := Lib.hid (hB1.out.grown hg hg1 (fun g h => (ho1.out.lt g h).1))
    clear hown hg hat
    go_wp2
    go_roundw
    case rel => first
      | exact ⟨k + 1, by omega, by go_num, Lib.hid (by rw [show (k + 1) * 32 = k * 32 + 32 by omega, ← Nat.add_assoc, ← ext_app (cs := cs) (a := 141) (b := 141 + k * 32) (by omega) (by omega)]; exact ho2.out), hb2⟩
      | ((repeat apply Exists.intro); exact ⟨⟨k + 1, by omega, by go_num, Lib.hid (by rw [show (k + 1) * 32 = k * 32 + 32 by omega, ← Nat.add_assoc, ← ext_app (cs := cs) (a := 141) (b := 141 + k * 32) (by omega) (by omega)]; exact ho2.out), hb2⟩, rfl⟩)
    case measure => simp [intOf]; omega
  obtain ⟨w5, rfl⟩ : ∃ x : World, x = wr := ⟨_, rfl⟩
  obtain rfl : k = 8 := by omega
  have hown := ho.out
  have hb1 := hb.out
  have hk := trivial
  clear ho hb hsB h48 hk8 hlt
  replace hown : w5.ownsRow w4.heap.size 5 1 (.slice a5 256 c5) 256 (encP cs L 5) := hown
  have R2 : Hid (∀ q ∈ ([⟨a0, 8, c0, 8, encP cs L 0⟩, ⟨a1, 32, c1, 32, encP cs L 1⟩, ⟨a2, 8, c2, 8, encP cs L 2⟩, ⟨a3, 16, c3, 16, encP cs L 3⟩, ⟨a4, 112, c4, 112, encP cs L 4⟩, ⟨a5, 256, c5, 256, encP cs L 5⟩] : List Pt), q.fit w5) := Lib.hid (by have t := fits_snoc (p := ⟨a5, 256, c5, 256, encP cs L 5⟩) R.out hb1 (fit_mk (SlR.own (bytes := 1) hown (by decide)) (ext_ones HO.out _ _) (fun _ => rfl) (by decide) (by decide)); exact t)
  have D2 := Lib.hid (D.out.trans (hb1.mono (by omega)))
  clear R D hgd hown hb1 hk
  have R := R2
  have D := D2
  clear R2 D2
  have hgd := D.out.size
  go_upto_region 42 with fail
  -- part 6
  have hk := Blk.below K0.out D.out hg0
  clear hk
  go_wp2
  go_loopw [11, 31] (fun vo i w6 => ∃ k : Nat, k ≤ 8 ∧ i = .int .i64 k ∧ Hid (w6.ownsRow w5.heap.size 5 1 vo (k * 32) (cs.extract 397 (397 + k * 32)).toList) ∧ Hid (Below w5.heap.size w5 w6)) (fun _ i _ => 8 - (intOf i).toNat)
  case atStart => exact ⟨0, by omega, rfl, Lib.hid (by simpa using World.ownsRow_nil _ _ _ _), Lib.hid (Below.refl _ _)⟩
  obtain ⟨k, hk8, rfl, ho, hb⟩ := hrel
  have hgr := hb.out.size
  obtain ⟨a6, c6, rfl⟩ := own_form ho.out
  have h48 : k * 32 ≤ 256 := by omega
  have hsB := SlR.own (bytes := 1) ho.out (Nat.le_trans (Nat.le_of_eq (Nat.mul_one _)) (Nat.le_trans h48 (by decide)))
  by_cases hlt : k < 8
  · have hk := Blk.below (Blk.below K0.out D.out hg0) hb.out (by omega)
    have T1 := slr_blk hk (397 + k * 32) 32 1 (by omega) (by decide) (by decide) _ rfl
    have T2 := Lib.hid T1
    clear T1
    go_upto_region 48 with ((at_builtin; (with_reducible apply l_append 39 wr.heap.size); (focus exact Try.underlying39); (focus exact HI.out.1); (focus exact HI.out.2.1); (focus exact HI.out.2.2.1); (focus exact HI.out.2.2.2); (focus (first | rfl | exact HZ.out)); (focus decide); (focus rfl); (focus exact (ownsRow_empty _ _ _ (Nat.le_refl _))); (focus rfl); (focus exact ((slr_blk hk (397 + k * 32) 32 1 (by omega) (by decide) (by decide) _ rfl).alloc (by omega) _)); (focus exact (ext_ones HO.out (397 + k * 32) 32)); (focus (first | omega | (simp; omega))); (focus (first | omega | (simp; omega))); (focus (first | omega | (simp; done) | (simp; omega)))))
    intro v1 x1 hown hgw
    simp only [Nat.zero_add, List.nil_append] at hown
    obtain ⟨a1x, c1x, rfl⟩ := own_form hown
    have hb1 : Below wr.heap.size wr x1 := ((Below.refl _ _).alloc (Nat.le_refl _) _).grown hgw (by simp) (fun k hk => by
      have h : some wr.heap.size = some k := hk
      exact Nat.le_of_eq (Option.some.inj h))
    have hs1 := Lib.hid (SlR.own (bytes := 1) hown (by decide))
    have ho1 := Lib.hid (own_blk ho.out hb1)
    have hB1 := Lib.hid (hb.out.trans (hb1.mono (by omega)))
    have hg1 := hB1.out.size
    clear hown hgw hb1 hk
    go_wp2_with ((at_builtin; (with_reducible apply l_append2 39 w5.heap.size); (focus exact Try.underlying39); (focus exact HI.out.1); (focus exact HI.out.2.1); (focus exact HI.out.2.2.1); (focus exact HI.out.2.2.2); (focus (first | rfl | exact HZ.out)); (focus decide); (focus rfl); (focus exact ho1.out); (focus rfl); (focus exact hs1.out); (focus exact (ext_ones HO.out (397 + k * 32) 32)); (focus (first | omega | (simp; omega))); (focus (first | omega | (simp; omega))); (focus (first | omega | (simp; done) | (simp; omega)))))
    intro v2 x2 hown hg hat
    have ho2 := Lib.hid hown
    have hb2 := Lib.hid (hB1.out.grown hg hg1 (fun g h => (ho1.out.lt g h).1))
    clear hown hg hat
    go_wp2
    go_roundw
    case rel => first
      | exact ⟨k + 1, by omega, by go_num, Lib.hid (by rw [show (k + 1) * 32 = k * 32 + 32 by omega, ← Nat.add_assoc, ← ext_app (cs := cs) (a := 397) (b := 397 + k * 32) (by omega) (by omega)]; exact ho2.out), hb2⟩
      | ((repeat apply Exists.intro); exact ⟨⟨k + 1, by omega, by go_num, Lib.hid (by rw [show (k + 1) * 32 = k * 32 + 32 by omega, ← Nat.add_assoc, ← ext_app (cs := cs) (a := 397) (b := 397 + k * 32) (by omega) (by omega)]; exact ho2.out), hb2⟩, rfl⟩)
    case measure => simp [intOf]; omega
  obtain ⟨w6, rfl⟩ : ∃ x : World, x = wr := ⟨_, rfl⟩
  obtain rfl : k = 8 := by omega
  have hown := ho.out
  have hb1 := hb.out
  have hk := trivial
  clear ho hb hsB h48 hk8 hlt
  replace hown : w6.ownsRow w5.heap.size 5 1 (.slice a6 256 c6) 256 (encP cs L 6) := hown
  have R2 : Hid (∀ q ∈ ([⟨a0, 8, c0, 8, encP cs L 0⟩, ⟨a1, 32, c1, 32, encP cs L 1⟩, ⟨a2, 8, c2, 8, encP cs L 2⟩, ⟨a3, 16, c3, 16, encP cs L 3⟩, ⟨a4, 112, c4, 112, encP cs L 4⟩, ⟨a5, 256, c5, 256, encP cs L 5⟩, ⟨a6, 256, c6, 256, encP cs L 6⟩] : List Pt), q.fit w6) := Lib.hid (by have t := fits_snoc (p := ⟨a6, 256, c6, 256, encP cs L 6⟩) R.out hb1 (fit_mk (SlR.own (bytes := 1) hown (by decide)) (ext_ones HO.out _ _) (fun _ => rfl) (by decide) (by decide)); exact t)
  have D2 := Lib.hid (D.out.trans (hb1.mono (by omega)))
  clear R D hgd hown hb1 hk
  have R := R2
  have D := D2
  clear R2 D2
  have hgd := D.out.size
  go_upto_region 49 with fail
  -- part 7
  have hk := Blk.below K0.out D.out hg0
  obtain ⟨ah653, nh653, ch653, h653, s653⟩ := H.out.sl 653 (by decide)
  have q653 := cnt_of s653
  have HS653 := Lib.hid s653
  have Q653 := Lib.hid q653
  clear s653 q653
  have hcell := hk.cell
  by_cases hov : nh653 ≤ 1024
  case neg =>
    have dov : decide (1024 < (nh653 : Int)) = true := decide_eq_true (by omega)
    go_wp2
    go_ret2
    exact .inr ⟨fun h => hov (by rw [← Q653.out]; exact h.2.2.2.2.2.1), rfl, D0.out.trans (D.out.mono (by omega))⟩
  have F653 : Hid (cnt L 653 ≤ 1024) := Lib.hid (by rw [Q653.out]; exact hov)
  have dov : decide (1024 < (nh653 : Int)) = false := decide_eq_false (by omega)
  go_upto_region 51 with fail
  clear hcell hk dov
  have HO7 := Lib.hid (el_ones H.out 653 (by decide))
  go_wp2
  go_loopw [12, 33] (fun vo i wr => ∃ k : Nat, k ≤ nh653 ∧ i = .int .i64 k ∧ Hid (wr.ownsRow w6.heap.size 5 1 vo (k * 32) ((L 653).take (k * 32))) ∧ Hid (Below w6.heap.size w6 wr)) (fun _ i _ => nh653 - (intOf i).toNat)
  case atStart => exact ⟨0, by omega, rfl, Lib.hid (by rw [Nat.zero_mul]; exact World.ownsRow_nil _ _ _ _), Lib.hid (Below.refl _ _)⟩
  obtain ⟨k, hk8, rfl, ho, hb⟩ := hrel
  have hgr := hb.out.size
  obtain ⟨a7, c7, rfl⟩ := own_form ho.out
  have hE : k * 32 ≤ 32768 := by omega
  have hsB := SlR.own (bytes := 1) ho.out (Nat.le_trans (Nat.le_of_eq (Nat.mul_one _)) (Nat.le_trans hE (by decide)))
  have hk := Blk.below (Blk.below K0.out D.out hg0) hb.out (by omega)
  have hcell := hk.cell
  by_cases hlt : k < nh653
  · have hcell2 : ∀ i, (wr.alloc (.cells #[] 5)).cell? ⟨w.heap.size, i, none⟩ = cs[i]? := (hk.alloc _).cell
    obtain ⟨bb, oo, rfl, hbb, hs⟩ := SlR.sub HS653.out hlt (by decide)
    have hs' := Lib.hid (((hs.below (D0.out.mono (by omega))).below (D.out.mono (by omega))).below (hb.out.mono (by omega)))
    clear hs
    go_upto_region 57 with ((at_builtin; (with_reducible apply l_append 39 wr.heap.size); (focus exact Try.underlying39); (focus exact HI.out.1); (focus exact HI.out.2.1); (focus exact HI.out.2.2.1); (focus exact HI.out.2.2.2); (focus (first | rfl | exact HZ.out)); (focus decide); (focus rfl); (focus exact (ownsRow_empty _ _ _ (Nat.le_refl _))); (focus rfl); (focus exact (hs'.out.alloc (by omega) _)); (focus exact (sub_ones HO7.out _ _)); (focus (first | omega | (simp; omega))); (focus (first | omega | (simp; omega))); (focus (first | omega | (simp; done) | (simp; omega)))))
    intro v1 x1 hown hgw
    replace hown : x1.ownsRow wr.heap.size 5 1 v1 32 (((L 653).drop (k * 32)).take 32) := by
      simp only [Nat.zero_add, List.nil_append] at hown
      exact hown
    obtain ⟨a1x, c1x, rfl⟩ := own_form hown
    have hb1 : Below wr.heap.size wr x1 := ((Below.refl _ _).alloc (Nat.le_refl _) _).grown hgw (by simp) (fun k hk => by
      have h : some wr.heap.size = some k := hk
      exact Nat.le_of_eq (Option.some.inj h))
    have hs1 := Lib.hid (SlR.own (bytes := 1) hown (by decide))
    have ho1 := Lib.hid (own_blk ho.out hb1)
    have hB1 := Lib.hid (hb.out.trans (hb1.mono (by omega)))
    have hg1 := hB1.out.size
    clear hown hgw hb1 hk hcell hcell2
    have hcell := (Blk.below (Blk.below K0.out D.out hg0) hB1.out (by omega)).cell
    go_wp2_with ((at_builtin; (with_reducible apply l_append2 39 w6.heap.size); (focus exact Try.underlying39); (focus exact HI.out.1); (focus exact HI.out.2.1); (focus exact HI.out.2.2.1); (focus exact HI.out.2.2.2); (focus (first | rfl | exact HZ.out)); (focus decide); (focus rfl); (focus exact ho1.out); (focus rfl); (focus exact hs1.out); (focus exact (sub_ones HO7.out _ _)); (focus (first | omega | (simp; omega))); (focus (first | omega | (simp; omega))); (focus (first | omega | (simp; done) | (simp; omega)))))
    intro v2 x2 hown hg hat
    have ho2 := Lib.hid hown
    have hb2 := Lib.hid (hB1.out.grown hg hg1 (fun g h => (ho1.out.lt g h).1))
    clear hown hg hat hcell
    go_wp2
    go_roundw
    case rel => first
      | exact ⟨k + 1, by omega, by go_num, Lib.hid (by rw [show (k + 1) * 32 = k * 32 + 32 by omega, ← take_snoc]; exact ho2.out), hb2⟩
      | ((repeat apply Exists.intro); exact ⟨⟨k + 1, by omega, by go_num, Lib.hid (by rw [show (k + 1) * 32 = k * 32 + 32 by omega, ← take_snoc]; exact ho2.out), hb2⟩, rfl⟩)
    case measure => simp [intOf]; omega
  obtain rfl : nh653 = k := by omega
  obtain ⟨w7, rfl⟩ : ∃ x : World, x = wr := ⟨_, rfl⟩
  have hown : w7.ownsRow w6.heap.size 5 1 (.slice a7 (nh653 * 32) c7) (nh653 * 32) (encP cs L 7) := by
    have t := ho.out
    rw [List.take_of_length_le (by rw [HS653.out.len]; exact Nat.le_refl _)] at t
    exact t
  have hon : ∀ u ∈ encP cs L 7, u.oneCell' = true := HO7.out
  have hb1 := hb.out
  clear ho hb hsB hk8
  have R2 : Hid (∀ q ∈ ([⟨a0, 8, c0, 8, encP cs L 0⟩, ⟨a1, 32, c1, 32, encP cs L 1⟩, ⟨a2, 8, c2, 8, encP cs L 2⟩, ⟨a3, 16, c3, 16, encP cs L 3⟩, ⟨a4, 112, c4, 112, encP cs L 4⟩, ⟨a5, 256, c5, 256, encP cs L 5⟩, ⟨a6, 256, c6, 256, encP cs L 6⟩, ⟨a7, nh653 * 32, c7, 0, encP cs L 7⟩] : List Pt), q.fit w7) := Lib.hid (by
    have t := fits_snoc (p := ⟨a7, nh653 * 32, c7, 0, encP cs L 7⟩) R.out hb1 (fit_mk (SlR.own (bytes := 1) hown (Nat.le_trans (Nat.le_of_eq (Nat.mul_one _)) (Nat.le_trans hE (by decide)))) hon (fun h => absurd rfl h) (Nat.le_trans hE (by decide)) (by decide)); exact t)
  have D2 := Lib.hid (D.out.trans (hb1.mono (by omega)))
  clear R D hgd hown hb1 hE hov
  have R := R2
  have D := D2
  clear R2 D2
  have hgd := D.out.size
  go_upto_region 58 with fail
  clear hcell hk hlt hon h653
  -- part 8
  have hk := Blk.below K0.out D.out hg0
  go_upto_region 61 with (first
    | ((with_reducible apply l_load 34); (focus rfl); (focus (repeat (first | assumption | (apply Blk.newAt; (focus (simp; done))) | apply Blk.alloc | apply Blk.setRow | apply Blk.drewN | apply Blk.drew | (refine Blk.setRow_other ?_ ?_ _; focus (first | omega | (simp; omega)))))); (focus exact Try.underlying34); (focus rfl); (focus exact szEth1); (focus (first | omega | (simp; done) | (simp; omega) | assumption)); (try go_frame))
    | (go_at_call 48; refine (encEth1_any (cs.extract 654 (654 + 65)) (cN cs 686) _ (size_extract_of (by omega)) (ones_extract HO.out _ _) ((ext_get (by decide) (by omega)).trans (H.out.wf.u64 686 rfl).1) (H.out.wf.u64 686 rfl).2).mono ?_
       rintro e w8 ⟨v, rfl, hown, hb1⟩
       obtain ⟨a8, c8, rfl⟩ := own_form hown
       replace hown : w8.ownsRow w7.heap.size 5 1 (.slice a8 72 c8) 72 (encP cs L 8) := hown
       have R2 : Hid (∀ q ∈ ([⟨a0, 8, c0, 8, encP cs L 0⟩, ⟨a1, 32, c1, 32, encP cs L 1⟩, ⟨a2, 8, c2, 8, encP cs L 2⟩, ⟨a3, 16, c3, 16, encP cs L 3⟩, ⟨a4, 112, c4, 112, encP cs L 4⟩, ⟨a5, 256, c5, 256, encP cs L 5⟩, ⟨a6, 256, c6, 256, encP cs L 6⟩, ⟨a7, nh653 * 32, c7, 0, encP cs L 7⟩, ⟨a8, 72, c8, 72, encP cs L 8⟩] : List Pt), q.fit w8) := Lib.hid (by have t := fits_snoc (p := ⟨a8, 72, c8, 72, encP cs L 8⟩) R.out hb1 (fit_mk (SlR.own (bytes := 1) hown (by decide)) (encEth1_ones (ones_extract HO.out _ _) _) (fun _ => rfl) (by decide) (by decide)); exact t)
       have D2 := Lib.hid (D.out.trans (hb1.mono (by omega)))
       clear R D hgd hown hb1 hk
       have R := R2
       have D := D2
       clear R2 D2
       have hgd := D.out.size
       skip))
  -- part 9
  have hk := Blk.below K0.out D.out hg0
  obtain ⟨ah719, nh719, ch719, h719, s719⟩ := H.out.sl 719 (by decide)
  have q719 := cnt_of s719
  have HS719 := Lib.hid s719
  have Q719 := Lib.hid q719
  clear s719 q719
  have hcell := hk.cell
  by_cases hov : nh719 ≤ 8
  case neg =>
    have dov : decide (8 < (nh719 : Int)) = true := decide_eq_true (by omega)
    go_wp2
    go_ret2
    exact .inr ⟨fun h => hov (by rw [← Q719.out]; exact h.2.2.2.2.2.2), rfl, D0.out.trans (D.out.mono (by omega))⟩
  have F719 : Hid (cnt L 719 ≤ 8) := Lib.hid (by rw [Q719.out]; exact hov)
  have dov : decide (8 < (nh719 : Int)) = false := decide_eq_false (by omega)
  go_upto_region 63 with fail
  clear hcell hk dov
  have HO9 := Lib.hid (el_ones H.out 719 (by decide))
  go_wp2
  go_loopw [4, 14, 35] (fun er vo i wr => ∃ k : Nat, k ≤ nh719 ∧ er = .int .i64 0 ∧ i = .int .i64 k ∧ Hid (wr.ownsRow w8.heap.size 5 1 vo (k * 72) (votesTo (L 719) k)) ∧ Hid (Below w8.heap.size w8 wr)) (fun _ _ i _ => nh719 - (intOf i).toNat)
  case atStart => exact ⟨0, by omega, rfl, rfl, Lib.hid (by rw [Nat.zero_mul]; exact World.ownsRow_nil _ _ _ _), Lib.hid (Below.refl _ _)⟩
  obtain ⟨k, hk8, rfl, rfl, ho, hb⟩ := hrel
  have hgr := hb.out.size
  obtain ⟨a9, c9, rfl⟩ := own_form ho.out
  have hE : k * 72 ≤ 576 := by omega
  have hsB := SlR.own (bytes := 1) ho.out (Nat.le_trans (Nat.le_of_eq (Nat.mul_one _)) (Nat.le_trans hE (by decide)))
  have hk := Blk.below (Blk.below K0.out D.out hg0) hb.out (by omega)
  have hcell := hk.cell
  by_cases hlt : k < nh719
  · have HSr := ((HS719.out.below (D0.out.mono (by omega))).below (D.out.mono (by omega))).below (hb.out.mono (by omega))
    have hlen : (L 719).length = nh719 * 65 := HS719.out.len
    obtain ⟨bb, oo, rfl, hbb, hr, hl⟩ := HSr.range hlt
    have Hrng : Hid (wr.rangeAt bb (oo + k * 65) (((L 719).drop (k * 65)).take 65)) := Lib.hid hr
    have Hlen : Hid ((((L 719).drop (k * 65)).take 65).length = 65) := Lib.hid hl
    have G := Lib.hid (chunk_u64 H.out 719 (by decide) (k * 65) 65 32 (by decide) (by unfold ek; rw [if_neg (by decide), if_pos rfl, if_pos (by omega)]) (by omega))
    have HC1 := Lib.hid (all_oneCell_toArray (sub_ones HO9.out (k * 65) 65))
    clear HSr hr hl hlen
    go_upto_region 71 with (first
      | ((with_reducible apply l_loadr 34); (focus rfl); (focus (repeat (first | exact Hrng.out | assumption | apply World.rangeAt_alloc))); (focus exact Try.underlying34); (focus rfl); (focus exact szEth1); (focus exact Hlen.out); (try go_frame))
      | (go_at_call 48; refine (encEth1_any _ (lN (L 719) (k * 65 + 32)) _ (by simpa using Hlen.out) HC1.out G.out.1 G.out.2).mono ?_
         rintro e x1 ⟨v, rfl, hown, hb1⟩
         obtain ⟨a1x, c1x, rfl⟩ := own_form hown
         have hs1 := Lib.hid (SlR.own (bytes := 1) hown (by decide))
         have ho1 := Lib.hid (own_blk ho.out hb1)
         have hB1 := Lib.hid (hb.out.trans (hb1.mono (by omega)))
         have hg1 := hB1.out.size
         clear hown hb1 hk hcell))
    have hcell := (Blk.below (Blk.below K0.out D.out hg0) hB1.out (by omega)).cell
    go_wp2_with ((at_builtin; (with_reducible apply l_append2 39 w8.heap.size); (focus exact Try.underlying39); (focus exact HI.out.1); (focus exact HI.out.2.1); (focus exact HI.out.2.2.1); (focus exact HI.out.2.2.2); (focus (first | rfl | exact HZ.out)); (focus decide); (focus rfl); (focus exact ho1.out); (focus rfl); (focus exact hs1.out); (focus exact (encEth1_ones HC1.out _)); (focus (first | omega | (simp; omega))); (focus (first | omega | (simp; omega))); (focus (first | omega | (simp; done) | (simp; omega)))))
    intro v2 x2 hown hg hat
    have ho2 := Lib.hid hown
    have hb2 := Lib.hid (hB1.out.grown hg hg1 (fun g h => (ho1.out.lt g h).1))
    clear hown hg hat hcell
    go_wp2
    go_roundw
    case rel => first
      | exact ⟨k + 1, by omega, rfl, by go_num, Lib.hid (by rw [show (k + 1) * 72 = k * 72 + 72 by omega]; exact ho2.out), hb2⟩
      | ((repeat apply Exists.intro); exact ⟨⟨k + 1, by omega, rfl, by go_num, Lib.hid (by rw [show (k + 1) * 72 = k * 72 + 72 by omega]; exact ho2.out), hb2⟩, rfl⟩)
    case measure => simp [intOf]; omega
  obtain rfl : nh719 = k := by omega
  obtain ⟨w9, rfl⟩ : ∃ x : World, x = wr := ⟨_, rfl⟩
  have hown : w9.ownsRow w8.heap.size 5 1 (.slice a9 (nh719 * 72) c9) (nh719 * 72) (encP cs L 9) := by
    show World.ownsRow _ _ _ _ _ _ (votesTo (L 719) (cnt L 719))
    rw [Q719.out]
    exact ho.out
  have hon : ∀ u ∈ encP cs L 9, u.oneCell' = true := votesTo_ones HO9.out _
  have hb1 := hb.out
  clear ho hb hsB hk8
  have R2 : Hid (∀ q ∈ ([⟨a0, 8, c0, 8, encP cs L 0⟩, ⟨a1, 32, c1, 32, encP cs L 1⟩, ⟨a2, 8, c2, 8, encP cs L 2⟩, ⟨a3, 16, c3, 16, encP cs L 3⟩, ⟨a4, 112, c4, 112, encP cs L 4⟩, ⟨a5, 256, c5, 256, encP cs L 5⟩, ⟨a6, 256, c6, 256, encP cs L 6⟩, ⟨a7, nh653 * 32, c7, 0, encP cs L 7⟩, ⟨a8, 72, c8, 72, encP cs L 8⟩, ⟨a9, nh719 * 72, c9, 0, encP cs L 9⟩] : List Pt), q.fit w9) := Lib.hid (by
    have t := fits_snoc (p := ⟨a9, nh719 * 72, c9, 0, encP cs L 9⟩) R.out hb1 (fit_mk (SlR.own (bytes := 1) hown (Nat.le_trans (Nat.le_of_eq (Nat.mul_one _)) (Nat.le_trans hE (by decide)))) hon (fun h => absurd rfl h) (Nat.le_trans hE (by decide)) (by decide)); exact t)
  have D2 := Lib.hid (D.out.trans (hb1.mono (by omega)))
  clear R D hgd hown hb1 hE hov
  have R := R2
  have D := D2
  clear R2 D2
  have hgd := D.out.size
  go_upto_region 72 with fail
  clear hcell hk hlt hon h719
  -- part 10
  have hk := Blk.below K0.out D.out hg0
  have hcell := hk.cell
  have hv := (H.out.wf.u64 720 rfl).1
  have hw := Lib.hid (H.out.wf.u64 720 rfl).2
  go_upto_region 73 with (first
    | (go_at_call 45; refine (number10 (cN cs 720) hw.out _).mono ?_
       rintro e w10 ⟨v, rfl, hown, hb1⟩
       obtain ⟨a10, c10, rfl⟩ := own_form hown
       clear hcell hv hw
       replace hown : w10.ownsRow w9.heap.size 5 1 (.slice a10 8 c10) 8 (encP cs L 10) := hown
       have R2 : Hid (∀ q ∈ ([⟨a0, 8, c0, 8, encP cs L 0⟩, ⟨a1, 32, c1, 32, encP cs L 1⟩, ⟨a2, 8, c2, 8, encP cs L 2⟩, ⟨a3, 16, c3, 16, encP cs L 3⟩, ⟨a4, 112, c4, 112, encP cs L 4⟩, ⟨a5, 256, c5, 256, encP cs L 5⟩, ⟨a6, 256, c6, 256, encP cs L 6⟩, ⟨a7, nh653 * 32, c7, 0, encP cs L 7⟩, ⟨a8, 72, c8, 72, encP cs L 8⟩, ⟨a9, nh719 * 72, c9, 0, encP cs L 9⟩, ⟨a10, 8, c10, 8, encP cs L 10⟩] : List Pt), q.fit w10) := Lib.hid (by have t := fits_snoc (p := ⟨a10, 8, c10, 8, encP cs L 10⟩) R.out hb1 (fit_mk (SlR.own (bytes := 1) hown (by decide)) (num8_ones _) (fun _ => rfl) (by decide) (by decide)); exact t)
       have D2 := Lib.hid (D.out.trans (hb1.mono (by omega)))
       clear R D hgd hown hb1 hk
       have R := R2
       have D := D2
       clear R2 D2
       have hgd := D.out.size
       skip))
  -- part 11
  have hk := Blk.below K0.out D.out hg0
  obtain ⟨ah721, nh721, ch721, h721, s721⟩ := H.out.sl 721 (by decide)
  have q721 := cnt_of s721
  have HS721 := Lib.hid s721
  have Q721 := Lib.hid q721
  clear s721 q721
  have hcell := hk.cell
  by_cases hov : nh721 ≤ 65536
  case neg =>
    have dov : decide (65536 < (nh721 : Int)) = true := decide_eq_true (by omega)
    go_wp2
    go_ret2
    exact .inr ⟨fun h => hov (by rw [← Q721.out]; exact h.1), rfl, D0.out.trans (D.out.mono (by omega))⟩
  have F721 : Hid (cnt L 721 ≤ 65536) := Lib.hid (by rw [Q721.out]; exact hov)
  have dov : decide (65536 < (nh721 : Int)) = false := decide_eq_false (by omega)
  go_upto_region 75 with fail
  clear hcell hk dov
  have HO11 := Lib.hid (el_ones H.out 721 (by decide))
  go_wp2
  go_loopw [4, 16, 37] (fun er vo i wr => ∃ k : Nat, k ≤ nh721 ∧ er = .int .i64 0 ∧ i = .int .i64 k ∧ Hid (wr.ownsRow w10.heap.size 5 1 vo (k * 121) (valsTo (L 721) k)) ∧ Hid (Below w10.heap.size w10 wr)) (fun _ _ i _ => nh721 - (intOf i).toNat)
  case atStart => exact ⟨0, by omega, rfl, rfl, Lib.hid (by rw [Nat.zero_mul]; exact World.ownsRow_nil _ _ _ _), Lib.hid (Below.refl _ _)⟩
  obtain ⟨k, hk8, rfl, rfl, ho, hb⟩ := hrel
  have hgr := hb.out.size
  obtain ⟨a11, c11, rfl⟩ := own_form ho.out
  have hE : k * 121 ≤ 7929856 := by omega
  have hsB := SlR.own (bytes := 1) ho.out (Nat.le_trans (Nat.le_of_eq (Nat.mul_one _)) (Nat.le_trans hE (by decide)))
  have hk := Blk.below (Blk.below K0.out D.out hg0) hb.out (by omega)
  have hcell := hk.cell
  by_cases hlt : k < nh721
  · have HSr := ((HS721.out.below (D0.out.mono (by omega))).below (D.out.mono (by omega))).below (hb.out.mono (by omega))
    have hlen : (L 721).length = nh721 * 86 := HS721.out.len
    obtain ⟨bb, oo, rfl, hbb, hr, hl⟩ := HSr.range hlt
    have Hrng : Hid (wr.rangeAt bb (oo + k * 86) (((L 721).drop (k * 86)).take 86)) := Lib.hid hr
    have Hlen : Hid ((((L 721).drop (k * 86)).take 86).length = 86) := Lib.hid hl
    have G80 := Lib.hid (chunk_u64 H.out 721 (by decide) (k * 86) 86 80 (by decide) (by unfold ek; rw [if_neg (by decide), if_neg (by decide), if_pos rfl, if_neg (by omega), if_neg (by omega)]) (by omega))
    have G82 := Lib.hid (chunk_u64 H.out 721 (by decide) (k * 86) 86 82 (by decide) (by unfold ek; rw [if_neg (by decide), if_neg (by decide), if_pos rfl, if_neg (by omega), if_neg (by omega)]) (by omega))
    have G83 := Lib.hid (chunk_u64 H.out 721 (by decide) (k * 86) 86 83 (by decide) (by unfold ek; rw [if_neg (by decide), if_neg (by decide), if_pos rfl, if_neg (by omega), if_neg (by omega)]) (by omega))
    have G84 := Lib.hid (chunk_u64 H.out 721 (by decide) (k * 86) 86 84 (by decide) (by unfold ek; rw [if_neg (by decide), if_neg (by decide), if_pos rfl, if_neg (by omega), if_neg (by omega)]) (by omega))
    have G85 := Lib.hid (chunk_u64 H.out 721 (by decide) (k * 86) 86 85 (by decide) (by unfold ek; rw [if_neg (by decide), if_neg (by decide), if_pos rfl, if_neg (by omega), if_neg (by omega)]) (by omega))
    have G81 := Lib.hid (chunk_bool H.out 721 (by decide) (k * 86) 86 81 (by decide) (by unfold ek; rw [if_neg (by decide), if_neg (by decide), if_pos rfl, if_neg (by omega), if_pos (by omega)]) (by omega))
    have HC1 := Lib.hid (all_oneCell_toArray (sub_ones HO11.out (k * 86) 86))
    clear HSr hr hl hlen
    go_upto_region 83 with (first
      | ((with_reducible apply l_loadr 82); (focus rfl); (focus (repeat (first | exact Hrng.out | assumption | apply World.rangeAt_alloc))); (focus exact Try.underlying82); (focus rfl); (focus exact szValr); (focus exact Hlen.out); (try go_frame))
      | (go_at_call 49; refine (encVal_any _ (lN (L 721) (k * 86 + 80)) (lN (L 721) (k * 86 + 82)) (lN (L 721) (k * 86 + 83)) (lN (L 721) (k * 86 + 84)) (lN (L 721) (k * 86 + 85)) (lB (L 721) (k * 86 + 81)) _ (by simpa using Hlen.out) HC1.out G80.out.1 G80.out.2 G82.out.1 G82.out.2 G83.out.1 G83.out.2 G84.out.1 G84.out.2 G85.out.1 G85.out.2 G81.out).mono ?_
         rintro e x1 ⟨v, rfl, hown, hb1⟩
         obtain ⟨a1x, c1x, rfl⟩ := own_form hown
         have hs1 := Lib.hid (SlR.own (bytes := 1) hown (by decide))
         have ho1 := Lib.hid (own_blk ho.out hb1)
         have hB1 := Lib.hid (hb.out.trans (hb1.mono (by omega)))
         have hg1 := hB1.out.size
         clear hown hb1 hk hcell))
    have hcell := (Blk.below (Blk.below K0.out D.out hg0) hB1.out (by omega)).cell
    go_wp2_with ((at_builtin; (with_reducible apply l_append2 39 w10.heap.size); (focus exact Try.underlying39); (focus exact HI.out.1); (focus exact HI.out.2.1); (focus exact HI.out.2.2.1); (focus exact HI.out.2.2.2); (focus (first | rfl | exact HZ.out)); (focus decide); (focus rfl); (focus exact ho1.out); (focus rfl); (focus exact hs1.out); (focus exact (encVal_ones HC1.out _ _ _ _ _ _)); (focus (first | omega | (simp; omega))); (focus (first | omega | (simp; omega))); (focus (first | omega | (simp; done) | (simp; omega)))))
    intro v2 x2 hown hg hat
    have ho2 := Lib.hid hown
    have hb2 := Lib.hid (hB1.out.grown hg hg1 (fun g h => (ho1.out.lt g h).1))
    clear hown hg hat hcell
    go_wp2
    go_roundw
    case rel => first
      | exact ⟨k + 1, by omega, rfl, by go_num, Lib.hid (by rw [show (k + 1) * 121 = k * 121 + 121 by omega]; exact ho2.out), hb2⟩
      | ((repeat apply Exists.intro); exact ⟨⟨k + 1, by omega, rfl, by go_num, Lib.hid (by rw [show (k + 1) * 121 = k * 121 + 121 by omega]; exact ho2.out), hb2⟩, rfl⟩)
    case measure => simp [intOf]; omega
  obtain rfl : nh721 = k := by omega
  obtain ⟨w11, rfl⟩ : ∃ x : World, x = wr := ⟨_, rfl⟩
  have hown : w11.ownsRow w10.heap.size 5 1 (.slice a11 (nh721 * 121) c11) (nh721 * 121) (encP cs L 11) := by
    show World.ownsRow _ _ _ _ _ _ (valsTo (L 721) (cnt L 721))
    rw [Q721.out]
    exact ho.out
  have hon : ∀ u ∈ encP cs L 11, u.oneCell' = true := valsTo_ones HO11.out _
  have hb1 := hb.out
  clear ho hb hsB hk8
  have R2 : Hid (∀ q ∈ ([⟨a0, 8, c0, 8, encP cs L 0⟩, ⟨a1, 32, c1, 32, encP cs L 1⟩, ⟨a2, 8, c2, 8, encP cs L 2⟩, ⟨a3, 16, c3, 16, encP cs L 3⟩, ⟨a4, 112, c4, 112, encP cs L 4⟩, ⟨a5, 256, c5, 256, encP cs L 5⟩, ⟨a6, 256, c6, 256, encP cs L 6⟩, ⟨a7, nh653 * 32, c7, 0, encP cs L 7⟩, ⟨a8, 72, c8, 72, encP cs L 8⟩, ⟨a9, nh719 * 72, c9, 0, encP cs L 9⟩, ⟨a10, 8, c10, 8, encP cs L 10⟩, ⟨a11, nh721 * 121, c11, 0, encP cs L 11⟩] : List Pt), q.fit w11) := Lib.hid (by
    have t := fits_snoc (p := ⟨a11, nh721 * 121, c11, 0, encP cs L 11⟩) R.out hb1 (fit_mk (SlR.own (bytes := 1) hown (Nat.le_trans (Nat.le_of_eq (Nat.mul_one _)) (Nat.le_trans hE (by decide)))) hon (fun h => absurd rfl h) (Nat.le_trans hE (by decide)) (by decide)); exact t)
  have D2 := Lib.hid (D.out.trans (hb1.mono (by omega)))
  clear R D hgd hown hb1 hE hov
  have R := R2
  have D := D2
  clear R2 D2
  have hgd := D.out.size
  go_upto_region 84 with fail
  clear hcell hk hlt hon h721
  -- part 12
  have hk := Blk.below K0.out D.out hg0
  obtain ⟨ah722, nh722, ch722, h722, s722⟩ := H.out.sl 722 (by decide)
  have q722 := cnt_of s722
  have HS722 := Lib.hid s722
  have Q722 := Lib.hid q722
  clear s722 q722
  have hcell := hk.cell
  by_cases hov : nh722 ≤ 65536
  case neg =>
    have dov : decide (65536 < (nh722 : Int)) = true := decide_eq_true (by omega)
    go_wp2
    go_ret2
    exact .inr ⟨fun h => hov (by rw [← Q722.out]; exact h.2.1), rfl, D0.out.trans (D.out.mono (by omega))⟩
  have F722 : Hid (cnt L 722 ≤ 65536) := Lib.hid (by rw [Q722.out]; exact hov)
  have dov : decide (65536 < (nh722 : Int)) = false := decide_eq_false (by omega)
  go_upto_region 86 with fail
  clear hcell hk dov
  go_wp2
  go_loopw [17, 39] (fun vo i wr => ∃ k : Nat, k ≤ nh722 ∧ i = .int .i64 k ∧ Hid (wr.ownsRow w11.heap.size 5 1 vo (k * 8) (numsTo (L 722) k)) ∧ Hid (Below w11.heap.size w11 wr)) (fun _ i _ => nh722 - (intOf i).toNat)
  case atStart => exact ⟨0, by omega, rfl, Lib.hid (by rw [Nat.zero_mul]; exact World.ownsRow_nil _ _ _ _), Lib.hid (Below.refl _ _)⟩
  obtain ⟨k, hk8, rfl, ho, hb⟩ := hrel
  have hgr := hb.out.size
  obtain ⟨a12, c12, rfl⟩ := own_form ho.out
  have hE : k * 8 ≤ 524288 := by omega
  have hsB := SlR.own (bytes := 1) ho.out (Nat.le_trans (Nat.le_of_eq (Nat.mul_one _)) (Nat.le_trans hE (by decide)))
  have hk := Blk.below (Blk.below K0.out D.out hg0) hb.out (by omega)
  have hcell := hk.cell
  by_cases hlt : k < nh722
  · have hlen : (L 722).length = nh722 * 1 := HS722.out.len
    obtain ⟨bb, oo, rfl, hbb, hc⟩ := (((HS722.out.below (D0.out.mono (by omega))).below (D.out.mono (by omega))).below (hb.out.mono (by omega))).cells (by omega)
    have E := H.out.eN 722 k (by decide) rfl (by omega)
    have hel : wr.cell? ⟨bb, oo + k, none⟩ = some (.int .u64 (lN (L 722) k)) := hc _ _ E.1
    have hw := Lib.hid E.2
    clear E hc hlen
    go_upto_region 92 with (first
      | (go_at_call 45; refine (number10 (lN (L 722) k) hw.out _).mono ?_
         rintro e x1 ⟨v, rfl, hown, hb1⟩
         obtain ⟨a1x, c1x, rfl⟩ := own_form hown
         have hs1 := Lib.hid (SlR.own (bytes := 1) hown (by decide))
         clear hel
         have ho1 := Lib.hid (own_blk ho.out hb1)
         have hB1 := Lib.hid (hb.out.trans (hb1.mono (by omega)))
         have hg1 := hB1.out.size
         clear hown hb1 hk hcell))
    have hcell := (Blk.below (Blk.below K0.out D.out hg0) hB1.out (by omega)).cell
    go_wp2_with ((at_builtin; (with_reducible apply l_append2 39 w11.heap.size); (focus exact Try.underlying39); (focus exact HI.out.1); (focus exact HI.out.2.1); (focus exact HI.out.2.2.1); (focus exact HI.out.2.2.2); (focus (first | rfl | exact HZ.out)); (focus decide); (focus rfl); (focus exact ho1.out); (focus rfl); (focus exact hs1.out); (focus exact (num8_ones _)); (focus (first | omega | (simp; omega))); (focus (first | omega | (simp; omega))); (focus (first | omega | (simp; done) | (simp; omega)))))
    intro v2 x2 hown hg hat
    have ho2 := Lib.hid hown
    have hb2 := Lib.hid (hB1.out.grown hg hg1 (fun g h => (ho1.out.lt g h).1))
    clear hown hg hat hcell
    go_wp2
    go_roundw
    case rel => first
      | exact ⟨k + 1, by omega, by go_num, Lib.hid (by rw [show (k + 1) * 8 = k * 8 + 8 by omega]; exact ho2.out), hb2⟩
      | ((repeat apply Exists.intro); exact ⟨⟨k + 1, by omega, by go_num, Lib.hid (by rw [show (k + 1) * 8 = k * 8 + 8 by omega]; exact ho2.out), hb2⟩, rfl⟩)
    case measure => simp [intOf]; omega
  obtain rfl : nh722 = k := by omega
  obtain ⟨w12, rfl⟩ : ∃ x : World, x = wr := ⟨_, rfl⟩
  have hown : w12.ownsRow w11.heap.size 5 1 (.slice a12 (nh722 * 8) c12) (nh722 * 8) (encP cs L 12) := by
    show World.ownsRow _ _ _ _ _ _ (numsTo (L 722) (cnt L 722))
    rw [Q722.out]
    exact ho.out
  have hon : ∀ u ∈ encP cs L 12, u.oneCell' = true := numsTo_ones _
  have hb1 := hb.out
  clear ho hb hsB hk8
  have R2 : Hid (∀ q ∈ ([⟨a0, 8, c0, 8, encP cs L 0⟩, ⟨a1, 32, c1, 32, encP cs L 1⟩, ⟨a2, 8, c2, 8, encP cs L 2⟩, ⟨a3, 16, c3, 16, encP cs L 3⟩, ⟨a4, 112, c4, 112, encP cs L 4⟩, ⟨a5, 256, c5, 256, encP cs L 5⟩, ⟨a6, 256, c6, 256, encP cs L 6⟩, ⟨a7, nh653 * 32, c7, 0, encP cs L 7⟩, ⟨a8, 72, c8, 72, encP cs L 8⟩, ⟨a9, nh719 * 72, c9, 0, encP cs L 9⟩, ⟨a10, 8, c10, 8, encP cs L 10⟩, ⟨a11, nh721 * 121, c11, 0, encP cs L 11⟩, ⟨a12, nh722 * 8, c12, 0, encP cs L 12⟩] : List Pt), q.fit w12) := Lib.hid (by
    have t := fits_snoc (p := ⟨a12, nh722 * 8, c12, 0, encP cs L 12⟩) R.out hb1 (fit_mk (SlR.own (bytes := 1) hown (Nat.le_trans (Nat.le_of_eq (Nat.mul_one _)) (Nat.le_trans hE (by decide)))) hon (fun h => absurd rfl h) (Nat.le_trans hE (by decide)) (by decide)); exact t)
  have D2 := Lib.hid (D.out.trans (hb1.mono (by omega)))
  clear R D hgd hown hb1 hE hov
  have R := R2
  have D := D2
  clear R2 D2
  have hgd := D.out.size
  go_upto_region 93 with fail
  clear hcell hk hlt hon h722
  -- part 13
  have hk := Blk.below K0.out D.out hg0
  clear hk
  go_wp2
  go_loopw [18, 41] (fun vo i w13 => ∃ k : Nat, k ≤ 8 ∧ i = .int .i64 k ∧ Hid (w13.ownsRow w12.heap.size 5 1 vo (k * 32) (cs.extract 723 (723 + k * 32)).toList) ∧ Hid (Below w12.heap.size w12 w13)) (fun _ i _ => 8 - (intOf i).toNat)
  case atStart => exact ⟨0, by omega, rfl, Lib.hid (by simpa using World.ownsRow_nil _ _ _ _), Lib.hid (Below.refl _ _)⟩
  obtain ⟨k, hk8, rfl, ho, hb⟩ := hrel
  have hgr := hb.out.size
  obtain ⟨a13, c13, rfl⟩ := own_form ho.out
  have h48 : k * 32 ≤ 256 := by omega
  have hsB := SlR.own (bytes := 1) ho.out (Nat.le_trans (Nat.le_of_eq (Nat.mul_one _)) (Nat.le_trans h48 (by decide)))
  by_cases hlt : k < 8
  · have hk := Blk.below (Blk.below K0.out D.out hg0) hb.out (by omega)
    have T1 := slr_blk hk (723 + k * 32) 32 1 (by omega) (by decide) (by decide) _ rfl
    have T2 := Lib.hid T1
    clear T1
    go_upto_region 99 with ((at_builtin; (with_reducible apply l_append 39 wr.heap.size); (focus exact Try.underlying39); (focus exact HI.out.1); (focus exact HI.out.2.1); (focus exact HI.out.2.2.1); (focus exact HI.out.2.2.2); (focus (first | rfl | exact HZ.out)); (focus decide); (focus rfl); (focus exact (ownsRow_empty _ _ _ (Nat.le_refl _))); (focus rfl); (focus exact ((slr_blk hk (723 + k * 32) 32 1 (by omega) (by decide) (by decide) _ rfl).alloc (by omega) _)); (focus exact (ext_ones HO.out (723 + k * 32) 32)); (focus (first | omega | (simp; omega))); (focus (first | omega | (simp; omega))); (focus (first | omega | (simp; done) | (simp; omega)))))
    intro v1 x1 hown hgw
    simp only [Nat.zero_add, List.nil_append] at hown
    obtain ⟨a1x, c1x, rfl⟩ := own_form hown
    have hb1 : Below wr.heap.size wr x1 := ((Below.refl _ _).alloc (Nat.le_refl _) _).grown hgw (by simp) (fun k hk => by
      have h : some wr.heap.size = some k := hk
      exact Nat.le_of_eq (Option.some.inj h))
    have hs1 := Lib.hid (SlR.own (bytes := 1) hown (by decide))
    have ho1 := Lib.hid (own_blk ho.out hb1)
    have hB1 := Lib.hid (hb.out.trans (hb1.mono (by omega)))
    have hg1 := hB1.out.size
    clear hown hgw hb1 hk
    go_wp2_with ((at_builtin; (with_reducible apply l_append2 39 w12.heap.size); (focus exact Try.underlying39); (focus exact HI.out.1); (focus exact HI.out.2.1); (focus exact HI.out.2.2.1); (focus exact HI.out.2.2.2); (focus (first | rfl | exact HZ.out)); (focus decide); (focus rfl); (focus exact ho1.out); (focus rfl); (focus exact hs1.out); (focus exact (ext_ones HO.out (723 + k * 32) 32)); (focus (first | omega | (simp; omega))); (focus (first | omega | (simp; omega))); (focus (first | omega | (simp; done) | (simp; omega)))))
    intro v2 x2 hown hg hat
    have ho2 := Lib.hid hown
    have hb2 := Lib.hid (hB1.out.grown hg hg1 (fun g h => (ho1.out.lt g h).1))
    clear hown hg hat
    go_wp2
    go_roundw
    case rel => first
      | exact ⟨k + 1, by omega, by go_num, Lib.hid (by rw [show (k + 1) * 32 = k * 32 + 32 by omega, ← Nat.add_assoc, ← ext_app (cs := cs) (a := 723) (b := 723 + k * 32) (by omega) (by omega)]; exact ho2.out), hb2⟩
      | ((repeat apply Exists.intro); exact ⟨⟨k + 1, by omega, by go_num, Lib.hid (by rw [show (k + 1) * 32 = k * 32 + 32 by omega, ← Nat.add_assoc, ← ext_app (cs := cs) (a := 723) (b := 723 + k * 32) (by omega) (by omega)]; exact ho2.out), hb2⟩, rfl⟩)
    case measure => simp [intOf]; omega
  obtain ⟨w13, rfl⟩ : ∃ x : World, x = wr := ⟨_, rfl⟩
  obtain rfl : k = 8 := by omega
  have hown := ho.out
  have hb1 := hb.out
  have hk := trivial
  clear ho hb hsB h48 hk8 hlt
  replace hown : w13.ownsRow w12.heap.size 5 1 (.slice a13 256 c13) 256 (encP cs L 13) := hown
  have R2 : Hid (∀ q ∈ ([⟨a0, 8, c0, 8, encP cs L 0⟩, ⟨a1, 32, c1, 32, encP cs L 1⟩, ⟨a2, 8, c2, 8, encP cs L 2⟩, ⟨a3, 16, c3, 16, encP cs L 3⟩, ⟨a4, 112, c4, 112, encP cs L 4⟩, ⟨a5, 256, c5, 256, encP cs L 5⟩, ⟨a6, 256, c6, 256, encP cs L 6⟩, ⟨a7, nh653 * 32, c7, 0, encP cs L 7⟩, ⟨a8, 72, c8, 72, encP cs L 8⟩, ⟨a9, nh719 * 72, c9, 0, encP cs L 9⟩, ⟨a10, 8, c10, 8, encP cs L 10⟩, ⟨a11, nh721 * 121, c11, 0, encP cs L 11⟩, ⟨a12, nh722 * 8, c12, 0, encP cs L 12⟩, ⟨a13, 256, c13, 256, encP cs L 13⟩] : List Pt), q.fit w13) := Lib.hid (by have t := fits_snoc (p := ⟨a13, 256, c13, 256, encP cs L 13⟩) R.out hb1 (fit_mk (SlR.own (bytes := 1) hown (by decide)) (ext_ones HO.out _ _) (fun _ => rfl) (by decide) (by decide)); exact t)
  have D2 := Lib.hid (D.out.trans (hb1.mono (by omega)))
  clear R D hgd hown hb1 hk
  have R := R2
  have D := D2
  clear R2 D2
  have hgd := D.out.size
  go_upto_region 100 with fail
  -- part 14
  have hk := Blk.below K0.out D.out hg0
  clear hk
  go_wp2
  go_loopw [19, 43] (fun vo i wr => ∃ k : Nat, k ≤ 8 ∧ i = .int .i64 k ∧ Hid (wr.ownsRow w13.heap.size 5 1 vo (k * 8) (slashTo cs k)) ∧ Hid (Below w13.heap.size w13 wr)) (fun _ i _ => 8 - (intOf i).toNat)
  case atStart => exact ⟨0, by omega, rfl, Lib.hid (by rw [Nat.zero_mul]; exact World.ownsRow_nil _ _ _ _), Lib.hid (Below.refl _ _)⟩
  obtain ⟨k, hk8, rfl, ho, hb⟩ := hrel
  have hgr := hb.out.size
  obtain ⟨a14, c14, rfl⟩ := own_form ho.out
  have hE : k * 8 ≤ 64 := by omega
  have hsB := SlR.own (bytes := 1) ho.out (Nat.le_trans (Nat.le_of_eq (Nat.mul_one _)) (Nat.le_trans hE (by decide)))
  have hk := Blk.below (Blk.below K0.out D.out hg0) hb.out (by omega)
  have hcell := hk.cell
  by_cases hlt : k < 8
  · have E := H.out.wf.u64 (979 + k) (by unfold ck; rw [if_neg (by omega), if_neg (by omega), if_pos (by omega)]) (by omega)
    have hv := E.1
    have hw := Lib.hid E.2
    clear E
    go_upto_region 106 with (first
      | (go_at_call 45; refine (number10 (cN cs (979 + k)) hw.out _).mono ?_
         rintro e x1 ⟨v, rfl, hown, hb1⟩
         obtain ⟨a1x, c1x, rfl⟩ := own_form hown
         have hs1 := Lib.hid (SlR.own (bytes := 1) hown (by decide))
         clear hv
         have ho1 := Lib.hid (own_blk ho.out hb1)
         have hB1 := Lib.hid (hb.out.trans (hb1.mono (by omega)))
         have hg1 := hB1.out.size
         clear hown hb1 hk hcell))
    have hcell := (Blk.below (Blk.below K0.out D.out hg0) hB1.out (by omega)).cell
    go_wp2_with ((at_builtin; (with_reducible apply l_append2 39 w13.heap.size); (focus exact Try.underlying39); (focus exact HI.out.1); (focus exact HI.out.2.1); (focus exact HI.out.2.2.1); (focus exact HI.out.2.2.2); (focus (first | rfl | exact HZ.out)); (focus decide); (focus rfl); (focus exact ho1.out); (focus rfl); (focus exact hs1.out); (focus exact (num8_ones _)); (focus (first | omega | (simp; omega))); (focus (first | omega | (simp; omega))); (focus (first | omega | (simp; done) | (simp; omega)))))
    intro v2 x2 hown hg hat
    have ho2 := Lib.hid hown
    have hb2 := Lib.hid (hB1.out.grown hg hg1 (fun g h => (ho1.out.lt g h).1))
    clear hown hg hat hcell
    go_wp2
    go_roundw
    case rel => first
      | exact ⟨k + 1, by omega, by go_num, Lib.hid (by rw [show (k + 1) * 8 = k * 8 + 8 by omega]; exact ho2.out), hb2⟩
      | ((repeat apply Exists.intro); exact ⟨⟨k + 1, by omega, by go_num, Lib.hid (by rw [show (k + 1) * 8 = k * 8 + 8 by omega]; exact ho2.out), hb2⟩, rfl⟩)
    case measure => simp [intOf]; omega
  obtain rfl : k = 8 := by omega
  obtain ⟨w14, rfl⟩ : ∃ x : World, x = wr := ⟨_, rfl⟩
  have hown := ho.out
  have hb1 := hb.out
  clear ho hb hsB hk8 hlt hE hcell
  replace hown : w14.ownsRow w13.heap.size 5 1 (.slice a14 64 c14) 64 (encP cs L 14) := hown
  have R2 : Hid (∀ q ∈ ([⟨a0, 8, c0, 8, encP cs L 0⟩, ⟨a1, 32, c1, 32, encP cs L 1⟩, ⟨a2, 8, c2, 8, encP cs L 2⟩, ⟨a3, 16, c3, 16, encP cs L 3⟩, ⟨a4, 112, c4, 112, encP cs L 4⟩, ⟨a5, 256, c5, 256, encP cs L 5⟩, ⟨a6, 256, c6, 256, encP cs L 6⟩, ⟨a7, nh653 * 32, c7, 0, encP cs L 7⟩, ⟨a8, 72, c8, 72, encP cs L 8⟩, ⟨a9, nh719 * 72, c9, 0, encP cs L 9⟩, ⟨a10, 8, c10, 8, encP cs L 10⟩, ⟨a11, nh721 * 121, c11, 0, encP cs L 11⟩, ⟨a12, nh722 * 8, c12, 0, encP cs L 12⟩, ⟨a13, 256, c13, 256, encP cs L 13⟩, ⟨a14, 64, c14, 64, encP cs L 14⟩] : List Pt), q.fit w14) := Lib.hid (by have t := fits_snoc (p := ⟨a14, 64, c14, 64, encP cs L 14⟩) R.out hb1 (fit_mk (SlR.own (bytes := 1) hown (by decide)) (slashTo_ones _) (fun _ => rfl) (by decide) (by decide)); exact t)
  have D2 := Lib.hid (D.out.trans (hb1.mono (by omega)))
  clear R D hgd hown hb1 hk
  have R := R2
  have D := D2
  clear R2 D2
  have hgd := D.out.size
  go_upto_region 107 with fail
  -- part 15
  have hk := Blk.below K0.out D.out hg0
  obtain ⟨ah987, nh987, ch987, h987, s987⟩ := H.out.sl 987 (by decide)
  have q987 := cnt_of s987
  have HS987 := Lib.hid s987
  have Q987 := Lib.hid q987
  clear s987 q987
  have hcell := hk.cell
  by_cases hov : nh987 ≤ 65536
  case neg =>
    have dov : decide (65536 < (nh987 : Int)) = true := decide_eq_true (by omega)
    go_wp2
    go_ret2
    exact .inr ⟨fun h => hov (by rw [← Q987.out]; exact h.2.2.1), rfl, D0.out.trans (D.out.mono (by omega))⟩
  have F987 : Hid (cnt L 987 ≤ 65536) := Lib.hid (by rw [Q987.out]; exact hov)
  have dov : decide (65536 < (nh987 : Int)) = false := decide_eq_false (by omega)
  go_upto_region 109 with fail
  clear hcell hk dov
  have HO15 := Lib.hid (el_ones H.out 987 (by decide))
  go_wp2
  go_loopw [20, 45] (fun vo i wr => ∃ k : Nat, k ≤ nh987 ∧ i = .int .i64 k ∧ Hid (wr.ownsRow w14.heap.size 5 1 vo (k) ((L 987).take k)) ∧ Hid (Below w14.heap.size w14 wr)) (fun _ i _ => nh987 - (intOf i).toNat)
  case atStart => exact ⟨0, by omega, rfl, Lib.hid (World.ownsRow_nil _ _ _ _), Lib.hid (Below.refl _ _)⟩
  obtain ⟨k, hk8, rfl, ho, hb⟩ := hrel
  have hgr := hb.out.size
  obtain ⟨a15, c15, rfl⟩ := own_form ho.out
  have hE : k ≤ 65536 := by omega
  have hsB := SlR.own (bytes := 1) ho.out (Nat.le_trans (Nat.le_of_eq (Nat.mul_one _)) (Nat.le_trans hE (by decide)))
  have hk := Blk.below (Blk.below K0.out D.out hg0) hb.out (by omega)
  have hcell := hk.cell
  by_cases hlt : k < nh987
  · have hlen : (L 987).length = nh987 * 1 := HS987.out.len
    obtain ⟨bb, oo, rfl, hbb, hc⟩ := (((HS987.out.below (D0.out.mono (by omega))).below (D.out.mono (by omega))).below (hb.out.mono (by omega))).cells (by omega)
    have E := H.out.eN8 987 k (by decide) rfl (by omega)
    have hel : wr.cell? ⟨bb, oo + k, none⟩ = some (.int .u8 (lN (L 987) k)) := hc _ _ E.1
    have E1 := Lib.hid E.1
    clear E hc hlen
    go_upto_region 115 with fail
    obtain ⟨x1, hx1⟩ : ∃ x : World, x = wr.alloc (.cells #[.int .u8 (lN (L 987) k)] 5) := ⟨_, rfl⟩
    have hown := own_new wr 5 [.int .u8 (lN (L 987) k)] 1 wr.heap.size (Nat.le_refl _) (by decide) rfl
    rw [show ([.int .u8 (lN (L 987) k)] : List Value).toArray = #[.int .u8 (lN (L 987) k)] from rfl, ← hx1] at hown
    have hb1 : Below wr.heap.size wr x1 := by rw [hx1]; exact (by (repeat (first | exact Below.refl _ _ | apply Below.drew | apply below_drewN | (refine Below.alloc ?_ ?_ _) | (refine below_setRow ?_ ?_ _) | (refine Below.setCell ?_ ?_ _) | (refine Below.trans ?_ (Below.mono (by assumption) ?_)) | omega | (focus (simp; done)) | (focus (simp; omega)))))
    rw [← hx1]
    clear hx1
    have hs1 := Lib.hid (SlR.own (bytes := 1) hown (by decide))
    have ho1 := Lib.hid (own_blk ho.out hb1)
    have hB1 := Lib.hid (hb.out.trans (hb1.mono (by omega)))
    have hg1 := hB1.out.size
    clear hown hb1 hk hcell hel
    have hcell := (Blk.below (Blk.below K0.out D.out hg0) hB1.out (by omega)).cell
    go_wp2_with ((at_builtin; (with_reducible apply l_append2 39 w14.heap.size); (focus exact Try.underlying39); (focus exact HI.out.1); (focus exact HI.out.2.1); (focus exact HI.out.2.2.1); (focus exact HI.out.2.2.2); (focus (first | rfl | exact HZ.out)); (focus decide); (focus rfl); (focus exact ho1.out); (focus rfl); (focus exact hs1.out); (focus exact (ones_sing _)); (focus (first | omega | (simp; omega))); (focus (first | omega | (simp; omega))); (focus (first | omega | (simp; done) | (simp; omega)))))
    intro v2 x2 hown hg hat
    have ho2 := Lib.hid hown
    have hb2 := Lib.hid (hB1.out.grown hg hg1 (fun g h => (ho1.out.lt g h).1))
    clear hown hg hat hcell
    go_wp2
    go_roundw
    case rel => first
      | exact ⟨k + 1, by omega, by go_num, Lib.hid (by rw [take_one E1.out]; exact ho2.out), hb2⟩
      | ((repeat apply Exists.intro); exact ⟨⟨k + 1, by omega, by go_num, Lib.hid (by rw [take_one E1.out]; exact ho2.out), hb2⟩, rfl⟩)
    case measure => simp [intOf]; omega
  obtain rfl : nh987 = k := by omega
  obtain ⟨w15, rfl⟩ : ∃ x : World, x = wr := ⟨_, rfl⟩
  have hown : w15.ownsRow w14.heap.size 5 1 (.slice a15 (nh987) c15) (nh987) (encP cs L 15) := by
    have t := ho.out
    rw [List.take_of_length_le (by rw [HS987.out.len]; exact Nat.le_of_eq (Nat.mul_one _))] at t
    exact t
  have hon : ∀ u ∈ encP cs L 15, u.oneCell' = true := HO15.out
  have hb1 := hb.out
  clear ho hb hsB hk8
  have R2 : Hid (∀ q ∈ ([⟨a0, 8, c0, 8, encP cs L 0⟩, ⟨a1, 32, c1, 32, encP cs L 1⟩, ⟨a2, 8, c2, 8, encP cs L 2⟩, ⟨a3, 16, c3, 16, encP cs L 3⟩, ⟨a4, 112, c4, 112, encP cs L 4⟩, ⟨a5, 256, c5, 256, encP cs L 5⟩, ⟨a6, 256, c6, 256, encP cs L 6⟩, ⟨a7, nh653 * 32, c7, 0, encP cs L 7⟩, ⟨a8, 72, c8, 72, encP cs L 8⟩, ⟨a9, nh719 * 72, c9, 0, encP cs L 9⟩, ⟨a10, 8, c10, 8, encP cs L 10⟩, ⟨a11, nh721 * 121, c11, 0, encP cs L 11⟩, ⟨a12, nh722 * 8, c12, 0, encP cs L 12⟩, ⟨a13, 256, c13, 256, encP cs L 13⟩, ⟨a14, 64, c14, 64, encP cs L 14⟩, ⟨a15, nh987, c15, 0, encP cs L 15⟩] : List Pt), q.fit w15) := Lib.hid (by
    have t := fits_snoc (p := ⟨a15, nh987, c15, 0, encP cs L 15⟩) R.out hb1 (fit_mk (SlR.own (bytes := 1) hown (Nat.le_trans (Nat.le_of_eq (Nat.mul_one _)) (Nat.le_trans hE (by decide)))) hon (fun h => absurd rfl h) (Nat.le_trans hE (by decide)) (by decide)); exact t)
  have D2 := Lib.hid (D.out.trans (hb1.mono (by omega)))
  clear R D hgd hown hb1 hE hov
  have R := R2
  have D := D2
  clear R2 D2
  have hgd := D.out.size
  go_upto_region 116 with fail
  clear hcell hk hlt hon h987
  -- part 16
  have hk := Blk.below K0.out D.out hg0
  obtain ⟨ah988, nh988, ch988, h988, s988⟩ := H.out.sl 988 (by decide)
  have q988 := cnt_of s988
  have HS988 := Lib.hid s988
  have Q988 := Lib.hid q988
  clear s988 q988
  have hcell := hk.cell
  by_cases hov : nh988 ≤ 65536
  case neg =>
    have dov : decide (65536 < (nh988 : Int)) = true := decide_eq_true (by omega)
    go_wp2
    go_ret2
    exact .inr ⟨fun h => hov (by rw [← Q988.out]; exact h.2.2.2.1), rfl, D0.out.trans (D.out.mono (by omega))⟩
  have F988 : Hid (cnt L 988 ≤ 65536) := Lib.hid (by rw [Q988.out]; exact hov)
  have dov : decide (65536 < (nh988 : Int)) = false := decide_eq_false (by omega)
  go_upto_region 118 with fail
  clear hcell hk dov
  have HO16 := Lib.hid (el_ones H.out 988 (by decide))
  go_wp2
  go_loopw [21, 47] (fun vo i wr => ∃ k : Nat, k ≤ nh988 ∧ i = .int .i64 k ∧ Hid (wr.ownsRow w15.heap.size 5 1 vo (k) ((L 988).take k)) ∧ Hid (Below w15.heap.size w15 wr)) (fun _ i _ => nh988 - (intOf i).toNat)
  case atStart => exact ⟨0, by omega, rfl, Lib.hid (World.ownsRow_nil _ _ _ _), Lib.hid (Below.refl _ _)⟩
  obtain ⟨k, hk8, rfl, ho, hb⟩ := hrel
  have hgr := hb.out.size
  obtain ⟨a16, c16, rfl⟩ := own_form ho.out
  have hE : k ≤ 65536 := by omega
  have hsB := SlR.own (bytes := 1) ho.out (Nat.le_trans (Nat.le_of_eq (Nat.mul_one _)) (Nat.le_trans hE (by decide)))
  have hk := Blk.below (Blk.below K0.out D.out hg0) hb.out (by omega)
  have hcell := hk.cell
  by_cases hlt : k < nh988
  · have hlen : (L 988).length = nh988 * 1 := HS988.out.len
    obtain ⟨bb, oo, rfl, hbb, hc⟩ := (((HS988.out.below (D0.out.mono (by omega))).below (D.out.mono (by omega))).below (hb.out.mono (by omega))).cells (by omega)
    have E := H.out.eN8 988 k (by decide) rfl (by omega)
    have hel : wr.cell? ⟨bb, oo + k, none⟩ = some (.int .u8 (lN (L 988) k)) := hc _ _ E.1
    have E1 := Lib.hid E.1
    clear E hc hlen
    go_upto_region 124 with fail
    obtain ⟨x1, hx1⟩ : ∃ x : World, x = wr.alloc (.cells #[.int .u8 (lN (L 988) k)] 5) := ⟨_, rfl⟩
    have hown := own_new wr 5 [.int .u8 (lN (L 988) k)] 1 wr.heap.size (Nat.le_refl _) (by decide) rfl
    rw [show ([.int .u8 (lN (L 988) k)] : List Value).toArray = #[.int .u8 (lN (L 988) k)] from rfl, ← hx1] at hown
    have hb1 : Below wr.heap.size wr x1 := by rw [hx1]; exact (by (repeat (first | exact Below.refl _ _ | apply Below.drew | apply below_drewN | (refine Below.alloc ?_ ?_ _) | (refine below_setRow ?_ ?_ _) | (refine Below.setCell ?_ ?_ _) | (refine Below.trans ?_ (Below.mono (by assumption) ?_)) | omega | (focus (simp; done)) | (focus (simp; omega)))))
    rw [← hx1]
    clear hx1
    have hs1 := Lib.hid (SlR.own (bytes := 1) hown (by decide))
    have ho1 := Lib.hid (own_blk ho.out hb1)
    have hB1 := Lib.hid (hb.out.trans (hb1.mono (by omega)))
    have hg1 := hB1.out.size
    clear hown hb1 hk hcell hel
    have hcell := (Blk.below (Blk.below K0.out D.out hg0) hB1.out (by omega)).cell
    go_wp2_with ((at_builtin; (with_reducible apply l_append2 39 w15.heap.size); (focus exact Try.underlying39); (focus exact HI.out.1); (focus exact HI.out.2.1); (focus exact HI.out.2.2.1); (focus exact HI.out.2.2.2); (focus (first | rfl | exact HZ.out)); (focus decide); (focus rfl); (focus exact ho1.out); (focus rfl); (focus exact hs1.out); (focus exact (ones_sing _)); (focus (first | omega | (simp; omega))); (focus (first | omega | (simp; omega))); (focus (first | omega | (simp; done) | (simp; omega)))))
    intro v2 x2 hown hg hat
    have ho2 := Lib.hid hown
    have hb2 := Lib.hid (hB1.out.grown hg hg1 (fun g h => (ho1.out.lt g h).1))
    clear hown hg hat hcell
    go_wp2
    go_roundw
    case rel => first
      | exact ⟨k + 1, by omega, by go_num, Lib.hid (by rw [take_one E1.out]; exact ho2.out), hb2⟩
      | ((repeat apply Exists.intro); exact ⟨⟨k + 1, by omega, by go_num, Lib.hid (by rw [take_one E1.out]; exact ho2.out), hb2⟩, rfl⟩)
    case measure => simp [intOf]; omega
  obtain rfl : nh988 = k := by omega
  obtain ⟨w16, rfl⟩ : ∃ x : World, x = wr := ⟨_, rfl⟩
  have hown : w16.ownsRow w15.heap.size 5 1 (.slice a16 (nh988) c16) (nh988) (encP cs L 16) := by
    have t := ho.out
    rw [List.take_of_length_le (by rw [HS988.out.len]; exact Nat.le_of_eq (Nat.mul_one _))] at t
    exact t
  have hon : ∀ u ∈ encP cs L 16, u.oneCell' = true := HO16.out
  have hb1 := hb.out
  clear ho hb hsB hk8
  have R2 : Hid (∀ q ∈ ([⟨a0, 8, c0, 8, encP cs L 0⟩, ⟨a1, 32, c1, 32, encP cs L 1⟩, ⟨a2, 8, c2, 8, encP cs L 2⟩, ⟨a3, 16, c3, 16, encP cs L 3⟩, ⟨a4, 112, c4, 112, encP cs L 4⟩, ⟨a5, 256, c5, 256, encP cs L 5⟩, ⟨a6, 256, c6, 256, encP cs L 6⟩, ⟨a7, nh653 * 32, c7, 0, encP cs L 7⟩, ⟨a8, 72, c8, 72, encP cs L 8⟩, ⟨a9, nh719 * 72, c9, 0, encP cs L 9⟩, ⟨a10, 8, c10, 8, encP cs L 10⟩, ⟨a11, nh721 * 121, c11, 0, encP cs L 11⟩, ⟨a12, nh722 * 8, c12, 0, encP cs L 12⟩, ⟨a13, 256, c13, 256, encP cs L 13⟩, ⟨a14, 64, c14, 64, encP cs L 14⟩, ⟨a15, nh987, c15, 0, encP cs L 15⟩, ⟨a16, nh988, c16, 0, encP cs L 16⟩] : List Pt), q.fit w16) := Lib.hid (by
    have t := fits_snoc (p := ⟨a16, nh988, c16, 0, encP cs L 16⟩) R.out hb1 (fit_mk (SlR.own (bytes := 1) hown (Nat.le_trans (Nat.le_of_eq (Nat.mul_one _)) (Nat.le_trans hE (by decide)))) hon (fun h => absurd rfl h) (Nat.le_trans hE (by decide)) (by decide)); exact t)
  have D2 := Lib.hid (D.out.trans (hb1.mono (by omega)))
  clear R D hgd hown hb1 hE hov
  have R := R2
  have D := D2
  clear R2 D2
  have hgd := D.out.size
  go_upto_region 125 with fail
  clear hcell hk hlt hon h988
  -- part 17
  have hk := Blk.below K0.out D.out hg0
  have hcell := hk.cell
  have HV : Hid (∀ q, q < 4 → w16.cell? ⟨w.heap.size, 989 + q, none⟩ = some (.bool (cB cs (989 + q)))) := Lib.hid fun q hq => (hcell _).trans (H.out.wf.bool (989 + q) (by unfold ck; rw [if_neg (by omega), if_pos (by omega)]) (by omega))
  clear hcell
  go_upto_region 126 with (first
    | (go_at_call 50; refine (vec_any w.heap.size 989 _ (fun q => cB cs (989 + q)) _ (by omega) HV.out).mono ?_
       rintro e w17 ⟨v, rfl, hown, hb1⟩
       obtain ⟨a17, c17, rfl⟩ := own_form hown
       clear HV
       replace hown : w17.ownsRow w16.heap.size 5 1 (.slice a17 1 c17) 1 (encP cs L 17) := hown
       have R2 : Hid (∀ q ∈ ([⟨a0, 8, c0, 8, encP cs L 0⟩, ⟨a1, 32, c1, 32, encP cs L 1⟩, ⟨a2, 8, c2, 8, encP cs L 2⟩, ⟨a3, 16, c3, 16, encP cs L 3⟩, ⟨a4, 112, c4, 112, encP cs L 4⟩, ⟨a5, 256, c5, 256, encP cs L 5⟩, ⟨a6, 256, c6, 256, encP cs L 6⟩, ⟨a7, nh653 * 32, c7, 0, encP cs L 7⟩, ⟨a8, 72, c8, 72, encP cs L 8⟩, ⟨a9, nh719 * 72, c9, 0, encP cs L 9⟩, ⟨a10, 8, c10, 8, encP cs L 10⟩, ⟨a11, nh721 * 121, c11, 0, encP cs L 11⟩, ⟨a12, nh722 * 8, c12, 0, encP cs L 12⟩, ⟨a13, 256, c13, 256, encP cs L 13⟩, ⟨a14, 64, c14, 64, encP cs L 14⟩, ⟨a15, nh987, c15, 0, encP cs L 15⟩, ⟨a16, nh988, c16, 0, encP cs L 16⟩, ⟨a17, 1, c17, 1, encP cs L 17⟩] : List Pt), q.fit w17) := Lib.hid (by have t := fits_snoc (p := ⟨a17, 1, c17, 1, encP cs L 17⟩) R.out hb1 (fit_mk (SlR.own (bytes := 1) hown (by decide)) (vec4_ones _) (fun _ => rfl) (by decide) (by decide)); exact t)
       have D2 := Lib.hid (D.out.trans (hb1.mono (by omega)))
       clear R D hgd hown hb1 hk
       have R := R2
       have D := D2
       clear R2 D2
       have hgd := D.out.size
       skip))
  -- part 18
  have hk := Blk.below K0.out D.out hg0
  go_upto_region 129 with (first
    | ((with_reducible apply l_load 42); (focus rfl); (focus (repeat (first | assumption | (apply Blk.newAt; (focus (simp; done))) | apply Blk.alloc | apply Blk.setRow | apply Blk.drewN | apply Blk.drew | (refine Blk.setRow_other ?_ ?_ _; focus (first | omega | (simp; omega)))))); (focus exact Try.underlying42); (focus rfl); (focus exact szCheckpoint); (focus (first | omega | (simp; done) | (simp; omega) | assumption)); (try go_frame))
    | (go_at_call 51; refine (encChk_any (cs.extract 993 (993 + 33)) (cN cs 993) _ (size_extract_of (by omega)) (ones_extract HO.out _ _) ((ext_get (by decide) (by omega)).trans (H.out.wf.u64 993 rfl).1) (H.out.wf.u64 993 rfl).2).mono ?_
       rintro e w18 ⟨v, rfl, hown, hb1⟩
       obtain ⟨a18, c18, rfl⟩ := own_form hown
       replace hown : w18.ownsRow w17.heap.size 5 1 (.slice a18 40 c18) 40 (encP cs L 18) := hown
       have R2 : Hid (∀ q ∈ ([⟨a0, 8, c0, 8, encP cs L 0⟩, ⟨a1, 32, c1, 32, encP cs L 1⟩, ⟨a2, 8, c2, 8, encP cs L 2⟩, ⟨a3, 16, c3, 16, encP cs L 3⟩, ⟨a4, 112, c4, 112, encP cs L 4⟩, ⟨a5, 256, c5, 256, encP cs L 5⟩, ⟨a6, 256, c6, 256, encP cs L 6⟩, ⟨a7, nh653 * 32, c7, 0, encP cs L 7⟩, ⟨a8, 72, c8, 72, encP cs L 8⟩, ⟨a9, nh719 * 72, c9, 0, encP cs L 9⟩, ⟨a10, 8, c10, 8, encP cs L 10⟩, ⟨a11, nh721 * 121, c11, 0, encP cs L 11⟩, ⟨a12, nh722 * 8, c12, 0, encP cs L 12⟩, ⟨a13, 256, c13, 256, encP cs L 13⟩, ⟨a14, 64, c14, 64, encP cs L 14⟩, ⟨a15, nh987, c15, 0, encP cs L 15⟩, ⟨a16, nh988, c16, 0, encP cs L 16⟩, ⟨a17, 1, c17, 1, encP cs L 17⟩, ⟨a18, 40, c18, 40, encP cs L 18⟩] : List Pt), q.fit w18) := Lib.hid (by have t := fits_snoc (p := ⟨a18, 40, c18, 40, encP cs L 18⟩) R.out hb1 (fit_mk (SlR.own (bytes := 1) hown (by decide)) (encChk_ones (ones_extract HO.out _ _) _) (fun _ => rfl) (by decide) (by decide)); exact t)
       have D2 := Lib.hid (D.out.trans (hb1.mono (by omega)))
       clear R D hgd hown hb1 hk
       have R := R2
       have D := D2
       clear R2 D2
       have hgd := D.out.size
       skip))
  -- part 19
  have hk := Blk.below K0.out D.out hg0
  go_upto_region 132 with (first
    | ((with_reducible apply l_load 42); (focus rfl); (focus (repeat (first | assumption | (apply Blk.newAt; (focus (simp; done))) | apply Blk.alloc | apply Blk.setRow | apply Blk.drewN | apply Blk.drew | (refine Blk.setRow_other ?_ ?_ _; focus (first | omega | (simp; omega)))))); (focus exact Try.underlying42); (focus rfl); (focus exact szCheckpoint); (focus (first | omega | (simp; done) | (simp; omega) | assumption)); (try go_frame))
    | (go_at_call 51; refine (encChk_any (cs.extract 1026 (1026 + 33)) (cN cs 1026) _ (size_extract_of (by omega)) (ones_extract HO.out _ _) ((ext_get (by decide) (by omega)).trans (H.out.wf.u64 1026 rfl).1) (H.out.wf.u64 1026 rfl).2).mono ?_
       rintro e w19 ⟨v, rfl, hown, hb1⟩
       obtain ⟨a19, c19, rfl⟩ := own_form hown
       replace hown : w19.ownsRow w18.heap.size 5 1 (.slice a19 40 c19) 40 (encP cs L 19) := hown
       have R2 : Hid (∀ q ∈ ([⟨a0, 8, c0, 8, encP cs L 0⟩, ⟨a1, 32, c1, 32, encP cs L 1⟩, ⟨a2, 8, c2, 8, encP cs L 2⟩, ⟨a3, 16, c3, 16, encP cs L 3⟩, ⟨a4, 112, c4, 112, encP cs L 4⟩, ⟨a5, 256, c5, 256, encP cs L 5⟩, ⟨a6, 256, c6, 256, encP cs L 6⟩, ⟨a7, nh653 * 32, c7, 0, encP cs L 7⟩, ⟨a8, 72, c8, 72, encP cs L 8⟩, ⟨a9, nh719 * 72, c9, 0, encP cs L 9⟩, ⟨a10, 8, c10, 8, encP cs L 10⟩, ⟨a11, nh721 * 121, c11, 0, encP cs L 11⟩, ⟨a12, nh722 * 8, c12, 0, encP cs L 12⟩, ⟨a13, 256, c13, 256, encP cs L 13⟩, ⟨a14, 64, c14, 64, encP cs L 14⟩, ⟨a15, nh987, c15, 0, encP cs L 15⟩, ⟨a16, nh988, c16, 0, encP cs L 16⟩, ⟨a17, 1, c17, 1, encP cs L 17⟩, ⟨a18, 40, c18, 40, encP cs L 18⟩, ⟨a19, 40, c19, 40, encP cs L 19⟩] : List Pt), q.fit w19) := Lib.hid (by have t := fits_snoc (p := ⟨a19, 40, c19, 40, encP cs L 19⟩) R.out hb1 (fit_mk (SlR.own (bytes := 1) hown (by decide)) (encChk_ones (ones_extract HO.out _ _) _) (fun _ => rfl) (by decide) (by decide)); exact t)
       have D2 := Lib.hid (D.out.trans (hb1.mono (by omega)))
       clear R D hgd hown hb1 hk
       have R := R2
       have D := D2
       clear R2 D2
       have hgd := D.out.size
       skip))
  -- part 20
  have hk := Blk.below K0.out D.out hg0
  go_upto_region 135 with (first
    | ((with_reducible apply l_load 42); (focus rfl); (focus (repeat (first | assumption | (apply Blk.newAt; (focus (simp; done))) | apply Blk.alloc | apply Blk.setRow | apply Blk.drewN | apply Blk.drew | (refine Blk.setRow_other ?_ ?_ _; focus (first | omega | (simp; omega)))))); (focus exact Try.underlying42); (focus rfl); (focus exact szCheckpoint); (focus (first | omega | (simp; done) | (simp; omega) | assumption)); (try go_frame))
    | (go_at_call 51; refine (encChk_any (cs.extract 1059 (1059 + 33)) (cN cs 1059) _ (size_extract_of (by omega)) (ones_extract HO.out _ _) ((ext_get (by decide) (by omega)).trans (H.out.wf.u64 1059 rfl).1) (H.out.wf.u64 1059 rfl).2).mono ?_
       rintro e w20 ⟨v, rfl, hown, hb1⟩
       obtain ⟨a20, c20, rfl⟩ := own_form hown
       replace hown : w20.ownsRow w19.heap.size 5 1 (.slice a20 40 c20) 40 (encP cs L 20) := hown
       have R2 : Hid (∀ q ∈ ([⟨a0, 8, c0, 8, encP cs L 0⟩, ⟨a1, 32, c1, 32, encP cs L 1⟩, ⟨a2, 8, c2, 8, encP cs L 2⟩, ⟨a3, 16, c3, 16, encP cs L 3⟩, ⟨a4, 112, c4, 112, encP cs L 4⟩, ⟨a5, 256, c5, 256, encP cs L 5⟩, ⟨a6, 256, c6, 256, encP cs L 6⟩, ⟨a7, nh653 * 32, c7, 0, encP cs L 7⟩, ⟨a8, 72, c8, 72, encP cs L 8⟩, ⟨a9, nh719 * 72, c9, 0, encP cs L 9⟩, ⟨a10, 8, c10, 8, encP cs L 10⟩, ⟨a11, nh721 * 121, c11, 0, encP cs L 11⟩, ⟨a12, nh722 * 8, c12, 0, encP cs L 12⟩, ⟨a13, 256, c13, 256, encP cs L 13⟩, ⟨a14, 64, c14, 64, encP cs L 14⟩, ⟨a15, nh987, c15, 0, encP cs L 15⟩, ⟨a16, nh988, c16, 0, encP cs L 16⟩, ⟨a17, 1, c17, 1, encP cs L 17⟩, ⟨a18, 40, c18, 40, encP cs L 18⟩, ⟨a19, 40, c19, 40, encP cs L 19⟩, ⟨a20, 40, c20, 40, encP cs L 20⟩] : List Pt), q.fit w20) := Lib.hid (by have t := fits_snoc (p := ⟨a20, 40, c20, 40, encP cs L 20⟩) R.out hb1 (fit_mk (SlR.own (bytes := 1) hown (by decide)) (encChk_ones (ones_extract HO.out _ _) _) (fun _ => rfl) (by decide) (by decide)); exact t)
       have D2 := Lib.hid (D.out.trans (hb1.mono (by omega)))
       clear R D hgd hown hb1 hk
       have R := R2
       have D := D2
       clear R2 D2
       have hgd := D.out.size
       skip))
  -- part 21
  have hk := Blk.below K0.out D.out hg0
  obtain ⟨ah1092, nh1092, ch1092, h1092, s1092⟩ := H.out.sl 1092 (by decide)
  have q1092 := cnt_of s1092
  have HS1092 := Lib.hid s1092
  have Q1092 := Lib.hid q1092
  clear s1092 q1092
  have hcell := hk.cell
  by_cases hov : nh1092 ≤ 65536
  case neg =>
    have dov : decide (65536 < (nh1092 : Int)) = true := decide_eq_true (by omega)
    go_wp2
    go_ret2
    exact .inr ⟨fun h => hov (by rw [← Q1092.out]; exact h.2.2.2.2.1), rfl, D0.out.trans (D.out.mono (by omega))⟩
  have F1092 : Hid (cnt L 1092 ≤ 65536) := Lib.hid (by rw [Q1092.out]; exact hov)
  have dov : decide (65536 < (nh1092 : Int)) = false := decide_eq_false (by omega)
  go_upto_region 137 with fail
  clear hcell hk dov
  go_wp2
  go_loopw [26, 49] (fun vo i wr => ∃ k : Nat, k ≤ nh1092 ∧ i = .int .i64 k ∧ Hid (wr.ownsRow w20.heap.size 5 1 vo (k * 8) (numsTo (L 1092) k)) ∧ Hid (Below w20.heap.size w20 wr)) (fun _ i _ => nh1092 - (intOf i).toNat)
  case atStart => exact ⟨0, by omega, rfl, Lib.hid (by rw [Nat.zero_mul]; exact World.ownsRow_nil _ _ _ _), Lib.hid (Below.refl _ _)⟩
  obtain ⟨k, hk8, rfl, ho, hb⟩ := hrel
  have hgr := hb.out.size
  obtain ⟨a21, c21, rfl⟩ := own_form ho.out
  have hE : k * 8 ≤ 524288 := by omega
  have hsB := SlR.own (bytes := 1) ho.out (Nat.le_trans (Nat.le_of_eq (Nat.mul_one _)) (Nat.le_trans hE (by decide)))
  have hk := Blk.below (Blk.below K0.out D.out hg0) hb.out (by omega)
  have hcell := hk.cell
  by_cases hlt : k < nh1092
  · have hlen : (L 1092).length = nh1092 * 1 := HS1092.out.len
    obtain ⟨bb, oo, rfl, hbb, hc⟩ := (((HS1092.out.below (D0.out.mono (by omega))).below (D.out.mono (by omega))).below (hb.out.mono (by omega))).cells (by omega)
    have E := H.out.eN 1092 k (by decide) rfl (by omega)
    have hel : wr.cell? ⟨bb, oo + k, none⟩ = some (.int .u64 (lN (L 1092) k)) := hc _ _ E.1
    have hw := Lib.hid E.2
    clear E hc hlen
    go_upto_region 143 with (first
      | (go_at_call 45; refine (number10 (lN (L 1092) k) hw.out _).mono ?_
         rintro e x1 ⟨v, rfl, hown, hb1⟩
         obtain ⟨a1x, c1x, rfl⟩ := own_form hown
         have hs1 := Lib.hid (SlR.own (bytes := 1) hown (by decide))
         clear hel
         have ho1 := Lib.hid (own_blk ho.out hb1)
         have hB1 := Lib.hid (hb.out.trans (hb1.mono (by omega)))
         have hg1 := hB1.out.size
         clear hown hb1 hk hcell))
    have hcell := (Blk.below (Blk.below K0.out D.out hg0) hB1.out (by omega)).cell
    go_wp2_with ((at_builtin; (with_reducible apply l_append2 39 w20.heap.size); (focus exact Try.underlying39); (focus exact HI.out.1); (focus exact HI.out.2.1); (focus exact HI.out.2.2.1); (focus exact HI.out.2.2.2); (focus (first | rfl | exact HZ.out)); (focus decide); (focus rfl); (focus exact ho1.out); (focus rfl); (focus exact hs1.out); (focus exact (num8_ones _)); (focus (first | omega | (simp; omega))); (focus (first | omega | (simp; omega))); (focus (first | omega | (simp; done) | (simp; omega)))))
    intro v2 x2 hown hg hat
    have ho2 := Lib.hid hown
    have hb2 := Lib.hid (hB1.out.grown hg hg1 (fun g h => (ho1.out.lt g h).1))
    clear hown hg hat hcell
    go_wp2
    go_roundw
    case rel => first
      | exact ⟨k + 1, by omega, by go_num, Lib.hid (by rw [show (k + 1) * 8 = k * 8 + 8 by omega]; exact ho2.out), hb2⟩
      | ((repeat apply Exists.intro); exact ⟨⟨k + 1, by omega, by go_num, Lib.hid (by rw [show (k + 1) * 8 = k * 8 + 8 by omega]; exact ho2.out), hb2⟩, rfl⟩)
    case measure => simp [intOf]; omega
  obtain rfl : nh1092 = k := by omega
  obtain ⟨w21, rfl⟩ : ∃ x : World, x = wr := ⟨_, rfl⟩
  have hown : w21.ownsRow w20.heap.size 5 1 (.slice a21 (nh1092 * 8) c21) (nh1092 * 8) (encP cs L 21) := by
    show World.ownsRow _ _ _ _ _ _ (numsTo (L 1092) (cnt L 1092))
    rw [Q1092.out]
    exact ho.out
  have hon : ∀ u ∈ encP cs L 21, u.oneCell' = true := numsTo_ones _
  have hb1 := hb.out
  clear ho hb hsB hk8
  have R2 : Hid (∀ q ∈ ([⟨a0, 8, c0, 8, encP cs L 0⟩, ⟨a1, 32, c1, 32, encP cs L 1⟩, ⟨a2, 8, c2, 8, encP cs L 2⟩, ⟨a3, 16, c3, 16, encP cs L 3⟩, ⟨a4, 112, c4, 112, encP cs L 4⟩, ⟨a5, 256, c5, 256, encP cs L 5⟩, ⟨a6, 256, c6, 256, encP cs L 6⟩, ⟨a7, nh653 * 32, c7, 0, encP cs L 7⟩, ⟨a8, 72, c8, 72, encP cs L 8⟩, ⟨a9, nh719 * 72, c9, 0, encP cs L 9⟩, ⟨a10, 8, c10, 8, encP cs L 10⟩, ⟨a11, nh721 * 121, c11, 0, encP cs L 11⟩, ⟨a12, nh722 * 8, c12, 0, encP cs L 12⟩, ⟨a13, 256, c13, 256, encP cs L 13⟩, ⟨a14, 64, c14, 64, encP cs L 14⟩, ⟨a15, nh987, c15, 0, encP cs L 15⟩, ⟨a16, nh988, c16, 0, encP cs L 16⟩, ⟨a17, 1, c17, 1, encP cs L 17⟩, ⟨a18, 40, c18, 40, encP cs L 18⟩, ⟨a19, 40, c19, 40, encP cs L 19⟩, ⟨a20, 40, c20, 40, encP cs L 20⟩, ⟨a21, nh1092 * 8, c21, 0, encP cs L 21⟩] : List Pt), q.fit w21) := Lib.hid (by
    have t := fits_snoc (p := ⟨a21, nh1092 * 8, c21, 0, encP cs L 21⟩) R.out hb1 (fit_mk (SlR.own (bytes := 1) hown (Nat.le_trans (Nat.le_of_eq (Nat.mul_one _)) (Nat.le_trans hE (by decide)))) hon (fun h => absurd rfl h) (Nat.le_trans hE (by decide)) (by decide)); exact t)
  have D2 := Lib.hid (D.out.trans (hb1.mono (by omega)))
  clear R D hgd hown hb1 hE hov
  have R := R2
  have D := D2
  clear R2 D2
  have hgd := D.out.size
  go_upto_region 144 with fail
  clear hcell hk hlt hon h1092
  -- part 22
  have hk := Blk.below K0.out D.out hg0
  go_upto_region 147 with (first
    | ((with_reducible apply l_load 47); (focus rfl); (focus (repeat (first | assumption | (apply Blk.newAt; (focus (simp; done))) | apply Blk.alloc | apply Blk.setRow | apply Blk.drewN | apply Blk.drew | (refine Blk.setRow_other ?_ ?_ _; focus (first | omega | (simp; omega)))))); (focus exact Try.underlying47); (focus rfl); (focus exact szCommittee); (focus (first | omega | (simp; done) | (simp; omega) | assumption)); (try go_frame))
    | (go_at_call 52; refine (encCom_any (cs.extract 1093 (1093 + 432))  _ (size_extract_of (by omega)) (ones_extract HO.out _ _) ).mono ?_
       rintro e w22 ⟨v, rfl, hown, hb1⟩
       obtain ⟨a22, c22, rfl⟩ := own_form hown
       replace hown : w22.ownsRow w21.heap.size 5 1 (.slice a22 432 c22) 432 (encP cs L 22) := hown
       have R2 : Hid (∀ q ∈ ([⟨a0, 8, c0, 8, encP cs L 0⟩, ⟨a1, 32, c1, 32, encP cs L 1⟩, ⟨a2, 8, c2, 8, encP cs L 2⟩, ⟨a3, 16, c3, 16, encP cs L 3⟩, ⟨a4, 112, c4, 112, encP cs L 4⟩, ⟨a5, 256, c5, 256, encP cs L 5⟩, ⟨a6, 256, c6, 256, encP cs L 6⟩, ⟨a7, nh653 * 32, c7, 0, encP cs L 7⟩, ⟨a8, 72, c8, 72, encP cs L 8⟩, ⟨a9, nh719 * 72, c9, 0, encP cs L 9⟩, ⟨a10, 8, c10, 8, encP cs L 10⟩, ⟨a11, nh721 * 121, c11, 0, encP cs L 11⟩, ⟨a12, nh722 * 8, c12, 0, encP cs L 12⟩, ⟨a13, 256, c13, 256, encP cs L 13⟩, ⟨a14, 64, c14, 64, encP cs L 14⟩, ⟨a15, nh987, c15, 0, encP cs L 15⟩, ⟨a16, nh988, c16, 0, encP cs L 16⟩, ⟨a17, 1, c17, 1, encP cs L 17⟩, ⟨a18, 40, c18, 40, encP cs L 18⟩, ⟨a19, 40, c19, 40, encP cs L 19⟩, ⟨a20, 40, c20, 40, encP cs L 20⟩, ⟨a21, nh1092 * 8, c21, 0, encP cs L 21⟩, ⟨a22, 432, c22, 432, encP cs L 22⟩] : List Pt), q.fit w22) := Lib.hid (by have t := fits_snoc (p := ⟨a22, 432, c22, 432, encP cs L 22⟩) R.out hb1 (fit_mk (SlR.own (bytes := 1) hown (by decide)) (ext_ones HO.out _ _) (fun _ => rfl) (by decide) (by decide)); exact t)
       have D2 := Lib.hid (D.out.trans (hb1.mono (by omega)))
       clear R D hgd hown hb1 hk
       have R := R2
       have D := D2
       clear R2 D2
       have hgd := D.out.size
       skip))
  -- part 23
  have hk := Blk.below K0.out D.out hg0
  go_upto_region 150 with (first
    | ((with_reducible apply l_load 47); (focus rfl); (focus (repeat (first | assumption | (apply Blk.newAt; (focus (simp; done))) | apply Blk.alloc | apply Blk.setRow | apply Blk.drewN | apply Blk.drew | (refine Blk.setRow_other ?_ ?_ _; focus (first | omega | (simp; omega)))))); (focus exact Try.underlying47); (focus rfl); (focus exact szCommittee); (focus (first | omega | (simp; done) | (simp; omega) | assumption)); (try go_frame))
    | (go_at_call 52; refine (encCom_any (cs.extract 1525 (1525 + 432))  _ (size_extract_of (by omega)) (ones_extract HO.out _ _) ).mono ?_
       rintro e w23 ⟨v, rfl, hown, hb1⟩
       obtain ⟨a23, c23, rfl⟩ := own_form hown
       replace hown : w23.ownsRow w22.heap.size 5 1 (.slice a23 432 c23) 432 (encP cs L 23) := hown
       have R2 : Hid (∀ q ∈ ([⟨a0, 8, c0, 8, encP cs L 0⟩, ⟨a1, 32, c1, 32, encP cs L 1⟩, ⟨a2, 8, c2, 8, encP cs L 2⟩, ⟨a3, 16, c3, 16, encP cs L 3⟩, ⟨a4, 112, c4, 112, encP cs L 4⟩, ⟨a5, 256, c5, 256, encP cs L 5⟩, ⟨a6, 256, c6, 256, encP cs L 6⟩, ⟨a7, nh653 * 32, c7, 0, encP cs L 7⟩, ⟨a8, 72, c8, 72, encP cs L 8⟩, ⟨a9, nh719 * 72, c9, 0, encP cs L 9⟩, ⟨a10, 8, c10, 8, encP cs L 10⟩, ⟨a11, nh721 * 121, c11, 0, encP cs L 11⟩, ⟨a12, nh722 * 8, c12, 0, encP cs L 12⟩, ⟨a13, 256, c13, 256, encP cs L 13⟩, ⟨a14, 64, c14, 64, encP cs L 14⟩, ⟨a15, nh987, c15, 0, encP cs L 15⟩, ⟨a16, nh988, c16, 0, encP cs L 16⟩, ⟨a17, 1, c17, 1, encP cs L 17⟩, ⟨a18, 40, c18, 40, encP cs L 18⟩, ⟨a19, 40, c19, 40, encP cs L 19⟩, ⟨a20, 40, c20, 40, encP cs L 20⟩, ⟨a21, nh1092 * 8, c21, 0, encP cs L 21⟩, ⟨a22, 432, c22, 432, encP cs L 22⟩, ⟨a23, 432, c23, 432, encP cs L 23⟩] : List Pt), q.fit w23) := Lib.hid (by have t := fits_snoc (p := ⟨a23, 432, c23, 432, encP cs L 23⟩) R.out hb1 (fit_mk (SlR.own (bytes := 1) hown (by decide)) (ext_ones HO.out _ _) (fun _ => rfl) (by decide) (by decide)); exact t)
       have D2 := Lib.hid (D.out.trans (hb1.mono (by omega)))
       clear R D hgd hown hb1 hk
       have R := R2
       have D := D2
       clear R2 D2
       have hgd := D.out.size
       skip))
  have HLY : Hid (ly [⟨a0, 8, c0, 8, encP cs L 0⟩, ⟨a1, 32, c1, 32, encP cs L 1⟩, ⟨a2, 8, c2, 8, encP cs L 2⟩, ⟨a3, 16, c3, 16, encP cs L 3⟩, ⟨a4, 112, c4, 112, encP cs L 4⟩, ⟨a5, 256, c5, 256, encP cs L 5⟩, ⟨a6, 256, c6, 256, encP cs L 6⟩, ⟨a7, nh653 * 32, c7, 0, encP cs L 7⟩, ⟨a8, 72, c8, 72, encP cs L 8⟩, ⟨a9, nh719 * 72, c9, 0, encP cs L 9⟩, ⟨a10, 8, c10, 8, encP cs L 10⟩, ⟨a11, nh721 * 121, c11, 0, encP cs L 11⟩, ⟨a12, nh722 * 8, c12, 0, encP cs L 12⟩, ⟨a13, 256, c13, 256, encP cs L 13⟩, ⟨a14, 64, c14, 64, encP cs L 14⟩, ⟨a15, nh987, c15, 0, encP cs L 15⟩, ⟨a16, nh988, c16, 0, encP cs L 16⟩, ⟨a17, 1, c17, 1, encP cs L 17⟩, ⟨a18, 40, c18, 40, encP cs L 18⟩, ⟨a19, 40, c19, 40, encP cs L 19⟩, ⟨a20, 40, c20, 40, encP cs L 20⟩, ⟨a21, nh1092 * 8, c21, 0, encP cs L 21⟩, ⟨a22, 432, c22, 432, encP cs L 22⟩, ⟨a23, 432, c23, 432, encP cs L 23⟩] = encB cs L) := Lib.hid (ly_encB rfl (by
    intro j hj
    have hj2 : j < 24 := hj
    match j, hj2 with
    | 0, _ => rfl
    | 1, _ => rfl
    | 2, _ => rfl
    | 3, _ => rfl
    | 4, _ => rfl
    | 5, _ => rfl
    | 6, _ => rfl
    | 7, _ => rfl
    | 8, _ => rfl
    | 9, _ => rfl
    | 10, _ => rfl
    | 11, _ => rfl
    | 12, _ => rfl
    | 13, _ => rfl
    | 14, _ => rfl
    | 15, _ => rfl
    | 16, _ => rfl
    | 17, _ => rfl
    | 18, _ => rfl
    | 19, _ => rfl
    | 20, _ => rfl
    | 21, _ => rfl
    | 22, _ => rfl
    | 23, _ => rfl
    | n + 24, hn => exact absurd hn (by omega)))
  go_wp2_with (first
    | (go_at_call 53
       refine (lay_rows [⟨a0, 8, c0, 8, encP cs L 0⟩, ⟨a1, 32, c1, 32, encP cs L 1⟩, ⟨a2, 8, c2, 8, encP cs L 2⟩, ⟨a3, 16, c3, 16, encP cs L 3⟩, ⟨a4, 112, c4, 112, encP cs L 4⟩, ⟨a5, 256, c5, 256, encP cs L 5⟩, ⟨a6, 256, c6, 256, encP cs L 6⟩, ⟨a7, nh653 * 32, c7, 0, encP cs L 7⟩, ⟨a8, 72, c8, 72, encP cs L 8⟩, ⟨a9, nh719 * 72, c9, 0, encP cs L 9⟩, ⟨a10, 8, c10, 8, encP cs L 10⟩, ⟨a11, nh721 * 121, c11, 0, encP cs L 11⟩, ⟨a12, nh722 * 8, c12, 0, encP cs L 12⟩, ⟨a13, 256, c13, 256, encP cs L 13⟩, ⟨a14, 64, c14, 64, encP cs L 14⟩, ⟨a15, nh987, c15, 0, encP cs L 15⟩, ⟨a16, nh988, c16, 0, encP cs L 16⟩, ⟨a17, 1, c17, 1, encP cs L 17⟩, ⟨a18, 40, c18, 40, encP cs L 18⟩, ⟨a19, 40, c19, 40, encP cs L 19⟩, ⟨a20, 40, c20, 40, encP cs L 20⟩, ⟨a21, nh1092 * 8, c21, 0, encP cs L 21⟩, ⟨a22, 432, c22, 432, encP cs L 22⟩, ⟨a23, 432, c23, 432, encP cs L 23⟩] w23 24 _ _ _ _ _ rfl rfl rfl (by decide) (by decide) (by simp) R.out).mono ?_
       rintro e wz ⟨v, rfl, hown, hbz⟩
       rw [HLY.out] at hown))
  go_ret2
  exact .inl ⟨⟨F721.out, F722.out, F987.out, F988.out, F1092.out, F653.out, F719.out⟩, _, rfl, own_weak hown (by omega), D0.out.trans ((D.out.mono (by omega)).trans (hbz.mono (by omega)))⟩
end Go.Proofs.Ytikbkcidalippaa
