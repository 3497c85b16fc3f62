/-
  JustSafe walked: it answers yes, whatever the weights.
-/
import Derived.Test.YtikbkcidalippaaSafeLaw
import Derived.Test.YtikbkcidalippaaReg
namespace Go.Proofs.Ytikbkcidalippaa
open Go.RowKit
attribute [local irreducible] Hid Blk
set_option maxRecDepth 100000

set_option maxHeartbeats 4000000 in
theorem safe_any (ad : Option Addr) (n c B : Nat) (xs : List Value) (w : World) (hB : B ≤ w.heap.size) (hs : SlR w B 1 8 ad n c xs) (hk : ∀ (j : Nat) u, xs[j]? = some u → CK.u64.ok u) :
    Calls Try.prog 5 #[.slice ad n c] w fun e w' => e = .returned (.bool true) ∧ Below w.heap.size w w' := by
  have hnc := hs.le
  have hcm := hs.max
  have HS := Lib.hid hs
  have HK := Lib.hid hk
  clear hs hk
  have h11 := Lib.hid (built_stn 11)
  have hInv := Lib.hid invS_start
  have hS11 := Lib.hid (stn_size 11)
  have hO11 := Lib.hid ((stn_wf (n := 11) ⟨by decide, by decide⟩).ones)
  generalize stn 11 = S11 at *
  go_enter Try.func5, Try.ntmps5
  go_upto_region 4 with (first
    | ((with_reducible apply l_build 49); (focus rfl); (focus exact h11.out); (try go_frame))
    | (go_at_call 8; refine (awake_any _).mono ?_; rintro e w1 ⟨rfl, hb1⟩
       have hg1 := hb1.size
       have Hb1 := Lib.hid hb1; clear hb1)
    | ((with_reducible apply l_alloc 49); (focus kernel_rfl); (try go_frame))
    | ((with_reducible apply l_storew 49); (focus rfl); (focus rfl); (focus (repeat (first | assumption | (apply Blk.newAt; (focus (simp; done))) | apply Blk.alloc | apply Blk.setRow | apply Blk.drewN | apply Blk.drew | (refine Blk.setRow_other ?_ ?_ _; focus (first | omega | (simp; omega)))))); (focus exact szState); (focus (first | exact hS11.out | (first | omega | (simp; done) | (simp; omega) | assumption))); (focus (first | omega | (simp; done) | (simp; omega) | assumption)); (focus exact hO11.out); (focus (repeat (first | (apply setRow_eq_at; (focus (simp; done))) | (refine setRow_eq_past ?_ ?_; (focus (first | (simp; done) | omega | (simp; omega)))) | apply setRow_eq_drewN | apply setRow_eq_drew | rfl))); (try go_frame)))
  obtain ⟨w3, hw3⟩ : ∃ w3 : World, w3 = w1.alloc (.cells S11 49) := ⟨_, rfl⟩
  have HK3 : Hid (Blk w3 w1.heap.size 49 S11) := Lib.hid (by rw [hw3]; exact Blk.new _ _ _)
  have Hb3 : Hid (Below w.heap.size w w3) := Lib.hid (by rw [hw3]; exact Hb1.out.alloc (by omega) _)
  have hg3 : w1.heap.size < w3.heap.size := by rw [hw3]; simp
  rw [← hw3]
  clear hw3
  obtain ⟨g, hg⟩ : ∃ g, g = w1.heap.size := ⟨_, rfl⟩
  rw [← hg] at HK3 hg3 hg1 ⊢
  clear hg Hb1
  go_wp2_with fail
  go_loopw [4] (fun i wr => ∃ (k : Nat) (X : Array Value), k ≤ 20 ∧ i = .int .i64 (2 * k) ∧ Hid (Blk wr g 49 X) ∧ Hid (InvS X k) ∧ Hid (Below w.heap.size w wr) ∧ g < wr.heap.size) (fun i _ => 41 - (intOf i).toNat)
  case atStart => exact ⟨0, S11, by omega, rfl, HK3, hInv, Hb3, hg3⟩
  case round =>
    obtain ⟨k, X, hk, rfl, hX, hI, hb, hgr⟩ := hrel
    obtain ⟨wo, rfl⟩ : ∃ wo : World, wo = wr := ⟨_, rfl⟩
    by_cases hlt : 2 * k + 1 < n ∧ k < 20
    case neg =>
      have hgo : 2 * k + 1 < n → ¬ (2 * k < 40) := fun h1 h2 => hlt ⟨h1, by omega⟩
      clear hlt
      by_cases h1 : 2 * k + 1 < n
      · have h2 := hgo h1
        clear hgo
        go_wp2_with fail
        go_ret
        exact ⟨rfl, hb.out⟩
      · clear hgo
        go_wp2_with fail
        go_ret
        exact ⟨rfl, hb.out⟩
    case pos =>
      obtain ⟨hl1, hl2⟩ := hlt
      go_upto_region 8 with fail
      go_loopw [5] (fun j wz => ∃ (m : Nat) (Y : Array Value), m ≤ 8 ∧ j = .int .i64 m ∧ Hid (Blk wz g 49 Y) ∧ Hid (SameR X Y) ∧ Hid (Below w.heap.size w wz) ∧ g < wz.heap.size) (fun j _ => 8 - (intOf j).toNat)
      case atStart => exact ⟨0, X, by omega, rfl, hX, Lib.hid ⟨(hI.out.is wo 0).wf, fun _ _ => rfl⟩, hb, hgr⟩
      case round =>
        obtain ⟨m, Y, hm, rfl, hY, hR, hbz, hgz⟩ := hrel
        have hblk := hY.out
        have hy1 : 1957 ≤ Y.size := Nat.le_of_eq hR.out.wf.size.symm
        have hy2 : Y.size ≤ 1957 := Nat.le_of_eq hR.out.wf.size
        by_cases hmt : m < 8
        · have ha : W8 (2 * k) := ⟨by omega, by omega⟩
          have hb8 : W8 m := ⟨by omega, by omega⟩
          have hbu := Lib.hid (built_root2 (2 * k) m)
          have hrs := Lib.hid (root2_size (2 * k) m)
          have hro := Lib.hid (root2_ones ha hb8)
          have hR2 := Lib.hid (hR.out.put hmt ha hb8)
          generalize root2 (2 * k) m = R2 at *
          clear ha hb8
          go_wp2_with (first | ((with_reducible apply l_build 24); (focus rfl); (focus exact hbu.out); (try go_frame)) | ((with_reducible apply l_store 24); (focus rfl); (focus rfl); (focus (repeat (first | assumption | (apply Blk.newAt; (focus (simp; done))) | apply Blk.alloc | apply Blk.setRow | apply Blk.drewN | apply Blk.drew | (refine Blk.setRow_other ?_ ?_ _; focus (first | omega | (simp; omega)))))); (focus exact szRoot); (focus (first | exact hrs.out | (first | omega | (simp; done) | (simp; omega) | assumption))); (focus (first | omega | (simp; done) | (simp; omega) | assumption)); (focus exact hro.out); (focus (repeat (first | (apply setRow_eq_at; (focus (simp; done))) | (refine setRow_eq_past ?_ ?_; (focus (first | (simp; done) | omega | (simp; omega)))) | apply setRow_eq_drewN | apply setRow_eq_drew | rfl))); (try go_frame)))
          go_roundw
          case rel => exact ⟨m + 1, _, by omega, by go_num, Lib.hid (hY.out.setRow _), hR2, Lib.hid (below_setRow hbz.out (by omega) _), by rw [size_setRow]; omega⟩
          case measure => simp [intOf]; omega
        · obtain rfl : m = 8 := by omega
          clear hm hmt
          obtain ⟨bw, ow, rfl, hbw, hcw⟩ := HS.out.cells (by omega)
          have hxl : xs.length = n := by have := HS.out.len; omega
          obtain ⟨x1, hu1, p1, q1⟩ := CK.ok_u64 (HK.out (2 * k) _ (List.getElem?_eq_getElem (by omega)))
          obtain ⟨x2, hu2, p2, q2⟩ := CK.ok_u64 (HK.out (2 * k + 1) _ (List.getElem?_eq_getElem (by omega)))
          have hc1 := hcw (2 * k) _ (by rw [List.getElem?_eq_getElem (by omega), hu1])
          have hc2 := hcw (2 * k + 1) _ (by rw [List.getElem?_eq_getElem (by omega), hu2])
          have C1 : Hid (∀ w', Below wr.heap.size wr w' → w'.cell? ⟨bw, ow + (2 * (k : Int)).toNat, none⟩ = some (.int .u64 x1)) := Lib.hid fun w' h => by
            rw [show (2 * (k : Int)).toNat = 2 * k by omega]
            rw [h.cell (by have := hbz.out.size; show bw < _; omega), hbz.out.cell (by show bw < _; omega)]; exact hc1
          have C2 : Hid (∀ w', Below wr.heap.size wr w' → w'.cell? ⟨bw, ow + (2 * (k : Int) + 1).toNat, none⟩ = some (.int .u64 x2)) := Lib.hid fun w' h => by
            rw [show (2 * (k : Int) + 1).toNat = 2 * k + 1 by omega]
            rw [h.cell (by have := hbz.out.size; show bw < _; omega), hbz.out.cell (by show bw < _; omega)]; exact hc2
          clear hc1 hc2 hcw hu1 hu2 hxl
          have i1 : (0 : Int) ≤ 2 * (k : Int) := by omega
          have i2 : 2 * (k : Int) < (n : Int) := by omega
          have i3 : 2 * (k : Int) + 1 < (n : Int) := by omega
          have i4 : (0 : Int) ≤ 2 * (k : Int) + 1 := by omega
          have hYs := Lib.hid hR.out.wf.size
          have HM1 : Hid (x1.tmod 100 = x1 % 100) := Lib.hid (Int.tmod_eq_emod_of_nonneg p1)
          have HM2 : Hid (x2.tmod 100 = x2 % 100) := Lib.hid (Int.tmod_eq_emod_of_nonneg p2)
          have HWR : Hid (IntKind.i64.wrap (2 * (k : Int) + 1) = 2 * (k : Int) + 1) := Lib.hid (IntWalk.i64_in _ (by omega))
          go_upto_region 11 with fail
          have hIY := Lib.hid (hR.out.inv hI.out)
          have HRi := Lib.hid (hIY.out.right hl2)
          go_cut [6, 7] (fun v6 v7 wx => ∃ (gy : Nat) (Z : Array Value), v6 = .pointer (some ⟨gy, 0, none⟩) ∧ v7 = .int .i64 0 ∧ Hid (StepS Y Z k) ∧ Hid (Blk wx gy 49 Z) ∧ Hid (Blk wx g 49 Y) ∧ Hid (Below w.heap.size w wx) ∧ g < gy ∧ gy < wx.heap.size)
          case first =>
            have hrefl : ∀ x : World, Below x.heap.size x x.drew := fun x => (Below.refl _ _).drew
            refine wp_region_held_drew (S := Below wr.heap.size wr) (by kernel_rfl) (hrefl _) (fun hHeld => ?_)
            (refine takeD 0 (some 35) (v := _) rfl rfl (by kernel_rfl) (by kernel_rfl) (by kernel_rfl) (fun _ _ _ h => h) (by assumption) (y_loadw 49 (by rfl) rfl rfl (fun w' h => hY.out.below h hgz) Try.underlying49 rfl szState hYs.out) ?_; (try simp only [Act.put, List.setIfInBounds_toArray, List.set_cons_zero, List.set_cons_succ]))
            (refine takeD 1 (some 36) (v := ?_) rfl rfl (by kernel_rfl) (by kernel_rfl) (by kernel_rfl) (fun _ _ _ h => h) (by assumption) (Or.inl ⟨by rfl, ?_⟩) ?_; rotate_left; (focus (intro w' hS; skip; go_simp; (try (with_reducible rfl)); done)); (try simp only [Act.put, List.setIfInBounds_toArray, List.set_cons_zero, List.set_cons_succ]))
            (refine takeD 2 (some 37) (v := ?_) rfl rfl (by kernel_rfl) (by kernel_rfl) (by kernel_rfl) (fun _ _ _ h => h) (by assumption) (Or.inl ⟨by rfl, ?_⟩) ?_; rotate_left; (focus (intro w' hS; skip; go_simp; (try (with_reducible rfl)); done)); (try simp only [Act.put, List.setIfInBounds_toArray, List.set_cons_zero, List.set_cons_succ]))
            (refine takeD 3 (some 38) (v := ?_) rfl rfl (by kernel_rfl) (by kernel_rfl) (by kernel_rfl) (fun _ _ _ h => h) (by assumption) (Or.inl ⟨by rfl, ?_⟩) ?_; rotate_left; (focus (intro w' hS; skip; go_simp; (try (with_reducible rfl)); done)); (try simp only [Act.put, List.setIfInBounds_toArray, List.set_cons_zero, List.set_cons_succ]))
            (refine takeD 4 (some 39) (v := ?_) rfl rfl (by kernel_rfl) (by kernel_rfl) (by kernel_rfl) (fun _ _ _ h => h) (by assumption) (Or.inl ⟨by rfl, ?_⟩) ?_; rotate_left; (focus (intro w' hS; have hc1 := C1.out _ hS; go_simp; (try (with_reducible rfl)); done)); (try simp only [Act.put, List.setIfInBounds_toArray, List.set_cons_zero, List.set_cons_succ]))
            (refine takeD 5 (some 40) (v := ?_) rfl rfl (by kernel_rfl) (by kernel_rfl) (by kernel_rfl) (fun _ _ _ h => h) (by assumption) (Or.inl ⟨by rfl, ?_⟩) ?_; rotate_left; (focus (intro w' hS; have hm := HM1.out; go_simp; (try (with_reducible rfl)); done)); (try simp only [Act.put, List.setIfInBounds_toArray, List.set_cons_zero, List.set_cons_succ]))
            (refine takeD 6 (some 41) (v := ?_) rfl rfl (by kernel_rfl) (by kernel_rfl) (by kernel_rfl) (fun _ _ _ h => h) (by assumption) (Or.inl ⟨by rfl, ?_⟩) ?_; rotate_left; (focus (intro w' hS; skip; go_simp; (try (with_reducible rfl)); done)); (try simp only [Act.put, List.setIfInBounds_toArray, List.set_cons_zero, List.set_cons_succ]))
            (refine takeD 7 (some 42) (v := ?_) rfl rfl (by kernel_rfl) (by kernel_rfl) (by kernel_rfl) (fun _ _ _ h => h) (by assumption) (Or.inl ⟨by rfl, ?_⟩) ?_; rotate_left; (focus (intro w' hS; skip; go_simp; (try (with_reducible rfl)); done)); (try simp only [Act.put, List.setIfInBounds_toArray, List.set_cons_zero, List.set_cons_succ]))
            (refine takeD 8 (some 43) (v := ?_) rfl rfl (by kernel_rfl) (by kernel_rfl) (by kernel_rfl) (fun _ _ _ h => h) (by assumption) (Or.inl ⟨by rfl, ?_⟩) ?_; rotate_left; (focus (intro w' hS; have hwr := HWR.out; go_simp; (try (with_reducible rfl)); done)); (try simp only [Act.put, List.setIfInBounds_toArray, List.set_cons_zero, List.set_cons_succ]))
            (refine takeD 9 (some 44) (v := ?_) rfl rfl (by kernel_rfl) (by kernel_rfl) (by kernel_rfl) (fun _ _ _ h => h) (by assumption) (Or.inl ⟨by rfl, ?_⟩) ?_; rotate_left; (focus (intro w' hS; skip; go_simp; (try (with_reducible rfl)); done)); (try simp only [Act.put, List.setIfInBounds_toArray, List.set_cons_zero, List.set_cons_succ]))
            (refine takeD 10 (some 45) (v := ?_) rfl rfl (by kernel_rfl) (by kernel_rfl) (by kernel_rfl) (fun _ _ _ h => h) (by assumption) (Or.inl ⟨by rfl, ?_⟩) ?_; rotate_left; (focus (intro w' hS; have hc1 := C2.out _ hS; go_simp; (try (with_reducible rfl)); done)); (try simp only [Act.put, List.setIfInBounds_toArray, List.set_cons_zero, List.set_cons_succ]))
            (refine takeD 11 (some 46) (v := ?_) rfl rfl (by kernel_rfl) (by kernel_rfl) (by kernel_rfl) (fun _ _ _ h => h) (by assumption) (Or.inl ⟨by rfl, ?_⟩) ?_; rotate_left; (focus (intro w' hS; have hm := HM2.out; go_simp; (try (with_reducible rfl)); done)); (try simp only [Act.put, List.setIfInBounds_toArray, List.set_cons_zero, List.set_cons_succ]))
            have fin : ∀ (wx : World) (gy : Nat) (Z : Array Value), Below wr.heap.size wr wx → wr.heap.size ≤ gy → Blk wx gy 49 Z → StepS Y Z k →
                Hid (StepS Y Z k) ∧ Hid (Blk wx gy 49 Z) ∧ Hid (Blk wx g 49 Y) ∧ Hid (Below w.heap.size w wx) ∧ g < gy ∧ gy < wx.heap.size :=
              fun wx gy Z h1 h2 h3 h4 => ⟨Lib.hid h4, Lib.hid h3, Lib.hid (hY.out.below h1 hgz), Lib.hid (hbz.out.trans (h1.mono hbz.out.size)), by omega, h3.lt⟩
            have FIN := Lib.hid fin
            clear fin hrefl
            have hx1 : 0 ≤ x1 % 100 ∧ x1 % 100 ≤ 1152921504606846976 := by omega
            have hx2 : 0 ≤ x2 % 100 ∧ x2 % 100 ≤ 1152921504606846976 := by omega
            refine wpAnyH_ready (rs := [12, 16]) (by kernel_rfl) (by simp) ?_
            refine AllReadyH.cons (o := _) rfl (fun K hK => ?_) (AllReadyH.cons (o := _) rfl (fun K hK => ?_) AllReadyH.nil)
            · refine s_call (some 47) 10 (by rfl) rfl rfl Try.func10 (by kernel_rfl) rfl (vs := [.agg Y, .int .u64 99, .int .u64 (x1 % 100), .int .u64 (x2 % 100)]) rfl
                (weigh_ok Y (fun _ => []) 0 _ (Nat.zero_le _) (hIY.out.is _ _) HRi.out (by rw [hIY.out.slot]; omega) 99 (x1 % 100) (x2 % 100) (by decide) (by decide) hx1.1 hx1.2 hx2.1 hx2.2) ?_
              rintro e w' ⟨cs', rfl, hcs, hst, -, hb2⟩
              refine ⟨_, rfl, ?_⟩
              have hst' := hIY.out.step hl2 hst hcs (x1 % 100) (x2 % 100)
              have hb3 := hHeld.trans (hb2.mono hHeld.size)
              refine hK.out _ _ hb3 (fun hHeld => ?_)
              (try simp only [Act.put, List.setIfInBounds_toArray, List.set_cons_zero, List.set_cons_succ])
              (refine takeD 13 (some 34) (v := ?_) rfl rfl (by kernel_rfl) (by kernel_rfl) (by kernel_rfl) (fun _ _ _ h => h) (by assumption) (Or.inl ⟨by rfl, ?_⟩) ?_; rotate_left; (focus (intro w' hS; skip; go_simp; (try (with_reducible rfl)); done)); (try simp only [Act.put, List.setIfInBounds_toArray, List.set_cons_zero, List.set_cons_succ]))
              (refine takeD 14 (some 48) (v := ?_) rfl rfl (by kernel_rfl) (by kernel_rfl) (by kernel_rfl) (fun _ _ _ h => h) (by assumption) (Or.inl ⟨by rfl, ?_⟩) ?_; rotate_left; (focus (intro w' hS; skip; go_simp; (try (with_reducible rfl)); done)); (try simp only [Act.put, List.setIfInBounds_toArray, List.set_cons_zero, List.set_cons_succ]))
              (refine takeD 15 (some 49) (v := ?_) rfl rfl (by kernel_rfl) (by kernel_rfl) (by kernel_rfl) (fun _ _ _ h => h) (by assumption) (Or.inl ⟨by rfl, ?_⟩) ?_; rotate_left; (focus (intro w' hS; skip; go_simp; (try (with_reducible rfl)); done)); (try simp only [Act.put, List.setIfInBounds_toArray, List.set_cons_zero, List.set_cons_succ]))
              (refine wpAnyH_ready (rs := [16]) (by kernel_rfl) (by simp) ?_; refine AllReadyH.cons (o := _) rfl (fun K hK => ?_) AllReadyH.nil)
              (refine s_alloc (some 6) 49 (by rfl) rfl rfl (by kernel_rfl) ?_; refine hK.out _ _ (hHeld.alloc hHeld.size _) (fun hHeld => ?_); (try simp only [Act.put, List.setIfInBounds_toArray, List.set_cons_zero, List.set_cons_succ]))
              (refine wpAnyH_ready (rs := [17]) (by kernel_rfl) (by simp) ?_; refine AllReadyH.cons (o := _) rfl (fun K hK => ?_) AllReadyH.nil)
              (refine s_storew none 49 (by rfl) rfl rfl rfl rfl (Blk.new _ _ _) szState hst'.wf.size szzState hst'.wf.ones ?_; refine hK.out _ _ (below_setRow hHeld hb3.size _) (fun hHeld => ?_); (try simp only [Act.put, List.setIfInBounds_toArray, List.set_cons_zero, List.set_cons_succ]))
              (refine takeD 18 (some 7) (v := ?_) rfl rfl (by kernel_rfl) (by kernel_rfl) (by kernel_rfl) (fun _ _ _ h => h) (by assumption) (Or.inl ⟨by rfl, ?_⟩) ?_; rotate_left; (focus (intro w' hS; skip; go_simp; (try (with_reducible rfl)); done)); (try simp only [Act.put, List.setIfInBounds_toArray, List.set_cons_zero, List.set_cons_succ]))
              refine wpAnyH_done (by kernel_rfl) ?_ _
              go_wp2_with fail
              go_meet
              exact ⟨_, _, rfl, rfl, FIN.out _ _ _ hHeld hb3.size ((Blk.new _ _ _).setRow _) hst'⟩
            · (refine s_alloc (some 6) 49 (by rfl) rfl rfl (by kernel_rfl) ?_; refine hK.out _ _ (hHeld.alloc hHeld.size _) (fun hHeld => ?_); (try simp only [Act.put, List.setIfInBounds_toArray, List.set_cons_zero, List.set_cons_succ]))
              have hb1 := hHeld
              (refine wpAnyH_ready (rs := [12]) (by kernel_rfl) (by simp) ?_; refine AllReadyH.cons (o := _) rfl (fun K hK => ?_) AllReadyH.nil)
              refine s_call (some 47) 10 (by rfl) rfl rfl Try.func10 (by kernel_rfl) rfl (vs := [.agg Y, .int .u64 99, .int .u64 (x1 % 100), .int .u64 (x2 % 100)]) rfl
                (weigh_ok Y (fun _ => []) 0 _ (Nat.zero_le _) (hIY.out.is _ _) HRi.out (by rw [hIY.out.slot]; omega) 99 (x1 % 100) (x2 % 100) (by decide) (by decide) hx1.1 hx1.2 hx2.1 hx2.2) ?_
              rintro e w' ⟨cs', rfl, hcs, hst, -, hb2⟩
              refine ⟨_, rfl, ?_⟩
              have hst' := hIY.out.step hl2 hst hcs (x1 % 100) (x2 % 100)
              have hb3 := hHeld.trans (hb2.mono hHeld.size)
              have hkz := (Blk.new wr.drew 49 (zc Try.prog 49)).below hb2 (by simp)
              refine hK.out _ _ hb3 (fun hHeld => ?_)
              (try simp only [Act.put, List.setIfInBounds_toArray, List.set_cons_zero, List.set_cons_succ])
              (refine takeD 13 (some 34) (v := ?_) rfl rfl (by kernel_rfl) (by kernel_rfl) (by kernel_rfl) (fun _ _ _ h => h) (by assumption) (Or.inl ⟨by rfl, ?_⟩) ?_; rotate_left; (focus (intro w' hS; skip; go_simp; (try (with_reducible rfl)); done)); (try simp only [Act.put, List.setIfInBounds_toArray, List.set_cons_zero, List.set_cons_succ]))
              (refine takeD 14 (some 48) (v := ?_) rfl rfl (by kernel_rfl) (by kernel_rfl) (by kernel_rfl) (fun _ _ _ h => h) (by assumption) (Or.inl ⟨by rfl, ?_⟩) ?_; rotate_left; (focus (intro w' hS; skip; go_simp; (try (with_reducible rfl)); done)); (try simp only [Act.put, List.setIfInBounds_toArray, List.set_cons_zero, List.set_cons_succ]))
              (refine takeD 15 (some 49) (v := ?_) rfl rfl (by kernel_rfl) (by kernel_rfl) (by kernel_rfl) (fun _ _ _ h => h) (by assumption) (Or.inl ⟨by rfl, ?_⟩) ?_; rotate_left; (focus (intro w' hS; skip; go_simp; (try (with_reducible rfl)); done)); (try simp only [Act.put, List.setIfInBounds_toArray, List.set_cons_zero, List.set_cons_succ]))
              (refine wpAnyH_ready (rs := [17]) (by kernel_rfl) (by simp) ?_; refine AllReadyH.cons (o := _) rfl (fun K hK => ?_) AllReadyH.nil)
              (refine s_storew none 49 (by rfl) rfl rfl rfl rfl hkz szState hst'.wf.size szzState hst'.wf.ones ?_; refine hK.out _ _ (below_setRow hHeld (Nat.le_refl _) _) (fun hHeld => ?_); (try simp only [Act.put, List.setIfInBounds_toArray, List.set_cons_zero, List.set_cons_succ]))
              (refine takeD 18 (some 7) (v := ?_) rfl rfl (by kernel_rfl) (by kernel_rfl) (by kernel_rfl) (fun _ _ _ h => h) (by assumption) (Or.inl ⟨by rfl, ?_⟩) ?_; rotate_left; (focus (intro w' hS; skip; go_simp; (try (with_reducible rfl)); done)); (try simp only [Act.put, List.setIfInBounds_toArray, List.set_cons_zero, List.set_cons_succ]))
              refine wpAnyH_done (by kernel_rfl) ?_ _
              go_wp2_with fail
              go_meet
              exact ⟨_, _, rfl, rfl, FIN.out _ _ _ hHeld (Nat.le_refl _) (hkz.setRow _) hst'⟩
          case rest =>
          rename World => wc
          obtain ⟨gy, Z, rfl, rfl, hst, hZ, hYb, hbw2, hggy, hgyl⟩ := hcut
          clear C1 C2 HWR HM1 HM2 i1 i2 i3 i4 hblk
          have e1 := hst.out.just; have e2 := hst.out.fin; have e3 := hst.out.ahead; have e4 := hst.out.one
          have Zs := Lib.hid hst.out.wf.size; have Zo := Lib.hid hst.out.wf.ones
          have hZ33 := hst.out.slot
          have hZ1026 := (hst.out.wf.u64 1026 rfl).1; have hZ1059 := (hst.out.wf.u64 1059 rfl).1
          have hY1026 := (hR.out.wf.u64 1026 rfl).1; have hY1059 := (hR.out.wf.u64 1059 rfl).1; have hY993 := (hR.out.wf.u64 993 rfl).1
          generalize cN Z 1026 = zj at *
          generalize cN Z 1059 = zf at *
          generalize cN Y 1026 = yj at *
          generalize cN Y 1059 = yf at *
          generalize cN Y 993 = yo at *
          have hcz := hZ.out.cell
          have hcy := hYb.out.cell
          have E4 := Lib.hid e4
          clear e4
          have d1 : decide (zj < yj) = false := decide_eq_false (by omega)
          have d2 : decide (zf < yf) = false := decide_eq_false (by omega)
          have d3 : decide (zj < zf) = false := decide_eq_false (by omega)
          by_cases hA : yf < zf
          case neg =>
            have d4 : decide (yf < zf) = false := decide_eq_false hA
            clear hA
            go_upto_region 16 with fail
            clear hcz hcy
            have hzb := hZ.out
            have hyb := hYb.out
            go_upto_region 17 with (first | ((with_reducible apply l_loadw 49); (focus rfl); (focus (repeat (first | assumption | (apply Blk.newAt; (focus (simp; done))) | apply Blk.alloc | apply Blk.setRow | apply Blk.drewN | apply Blk.drew | (refine Blk.setRow_other ?_ ?_ _; focus (first | omega | (simp; omega)))))); (focus exact Try.underlying49); (focus rfl); (focus exact szState); (focus (first | exact Zs.out | (first | omega | (simp; done) | (simp; omega) | assumption))); (try go_frame)) | ((with_reducible apply l_storew 49); (focus rfl); (focus rfl); (focus (repeat (first | assumption | (apply Blk.newAt; (focus (simp; done))) | apply Blk.alloc | apply Blk.setRow | apply Blk.drewN | apply Blk.drew | (refine Blk.setRow_other ?_ ?_ _; focus (first | omega | (simp; omega)))))); (focus exact szState); (focus (first | exact Zs.out | (first | omega | (simp; done) | (simp; omega) | assumption))); (focus (first | omega | (simp; done) | (simp; omega) | assumption)); (focus exact Zo.out); (focus (repeat (first | (apply setRow_eq_at; (focus (simp; done))) | (refine setRow_eq_past ?_ ?_; (focus (first | (simp; done) | omega | (simp; omega)))) | apply setRow_eq_drewN | apply setRow_eq_drew | rfl))); (try go_frame)))
            obtain ⟨wt, hwt⟩ : ∃ wt : World, wt = wc.setRow g Z := ⟨_, rfl⟩
            have hbt := Lib.hid (hYb.out.setRow Z)
            have hbw3 := Lib.hid (below_setRow hbw2.out hg1 Z)
            have hgt : g < wt.heap.size := by rw [hwt, size_setRow]; omega
            rw [← hwt] at hbt hbw3
            rw [← hwt]
            clear hwt hzb hyb
            have hcell := hbt.out.cell
            have hfz := hbt.out.frozen
            go_wp2_with fail
            go_roundw
            case rel => exact ⟨k + 1, _, by omega, by go_num, Lib.hid (blk_setCell hbt.out 33 _), Lib.hid hst.out.next, Lib.hid (hbw3.out.setCell hg1 _), by rw [World.size_setCell]; omega⟩
            case measure => simp [intOf]; omega
          have d4 : decide (yf < zf) = true := decide_eq_true hA
          by_cases hJ : zf = yj
          case pos =>
            have d5 : (zf != yj) = false := by rw [hJ]; exact bne_self_eq_false _
            clear hA hJ
            go_upto_region 16 with fail
            clear hcz hcy
            have hzb := hZ.out
            have hyb := hYb.out
            go_upto_region 17 with (first | ((with_reducible apply l_loadw 49); (focus rfl); (focus (repeat (first | assumption | (apply Blk.newAt; (focus (simp; done))) | apply Blk.alloc | apply Blk.setRow | apply Blk.drewN | apply Blk.drew | (refine Blk.setRow_other ?_ ?_ _; focus (first | omega | (simp; omega)))))); (focus exact Try.underlying49); (focus rfl); (focus exact szState); (focus (first | exact Zs.out | (first | omega | (simp; done) | (simp; omega) | assumption))); (try go_frame)) | ((with_reducible apply l_storew 49); (focus rfl); (focus rfl); (focus (repeat (first | assumption | (apply Blk.newAt; (focus (simp; done))) | apply Blk.alloc | apply Blk.setRow | apply Blk.drewN | apply Blk.drew | (refine Blk.setRow_other ?_ ?_ _; focus (first | omega | (simp; omega)))))); (focus exact szState); (focus (first | exact Zs.out | (first | omega | (simp; done) | (simp; omega) | assumption))); (focus (first | omega | (simp; done) | (simp; omega) | assumption)); (focus exact Zo.out); (focus (repeat (first | (apply setRow_eq_at; (focus (simp; done))) | (refine setRow_eq_past ?_ ?_; (focus (first | (simp; done) | omega | (simp; omega)))) | apply setRow_eq_drewN | apply setRow_eq_drew | rfl))); (try go_frame)))
            obtain ⟨wt, hwt⟩ : ∃ wt : World, wt = wc.setRow g Z := ⟨_, rfl⟩
            have hbt := Lib.hid (hYb.out.setRow Z)
            have hbw3 := Lib.hid (below_setRow hbw2.out hg1 Z)
            have hgt : g < wt.heap.size := by rw [hwt, size_setRow]; omega
            rw [← hwt] at hbt hbw3
            rw [← hwt]
            clear hwt hzb hyb
            have hcell := hbt.out.cell
            have hfz := hbt.out.frozen
            go_wp2_with fail
            go_roundw
            case rel => exact ⟨k + 1, _, by omega, by go_num, Lib.hid (blk_setCell hbt.out 33 _), Lib.hid hst.out.next, Lib.hid (hbw3.out.setCell hg1 _), by rw [World.size_setCell]; omega⟩
            case measure => simp [intOf]; omega
          case neg =>
            have hO : zf = yo := by
              rcases E4.out with h | h | h
              · exact absurd h (by omega)
              · exact h
              · exact absurd h hJ
            have d5 : (zf != yj) = true := bne_iff_ne.2 hJ
            have d6 : (zf != yo) = false := by rw [hO]; exact bne_self_eq_false _
            clear hA hJ hO
            go_upto_region 16 with fail
            clear hcz hcy
            have hzb := hZ.out
            have hyb := hYb.out
            go_upto_region 17 with (first | ((with_reducible apply l_loadw 49); (focus rfl); (focus (repeat (first | assumption | (apply Blk.newAt; (focus (simp; done))) | apply Blk.alloc | apply Blk.setRow | apply Blk.drewN | apply Blk.drew | (refine Blk.setRow_other ?_ ?_ _; focus (first | omega | (simp; omega)))))); (focus exact Try.underlying49); (focus rfl); (focus exact szState); (focus (first | exact Zs.out | (first | omega | (simp; done) | (simp; omega) | assumption))); (try go_frame)) | ((with_reducible apply l_storew 49); (focus rfl); (focus rfl); (focus (repeat (first | assumption | (apply Blk.newAt; (focus (simp; done))) | apply Blk.alloc | apply Blk.setRow | apply Blk.drewN | apply Blk.drew | (refine Blk.setRow_other ?_ ?_ _; focus (first | omega | (simp; omega)))))); (focus exact szState); (focus (first | exact Zs.out | (first | omega | (simp; done) | (simp; omega) | assumption))); (focus (first | omega | (simp; done) | (simp; omega) | assumption)); (focus exact Zo.out); (focus (repeat (first | (apply setRow_eq_at; (focus (simp; done))) | (refine setRow_eq_past ?_ ?_; (focus (first | (simp; done) | omega | (simp; omega)))) | apply setRow_eq_drewN | apply setRow_eq_drew | rfl))); (try go_frame)))
            obtain ⟨wt, hwt⟩ : ∃ wt : World, wt = wc.setRow g Z := ⟨_, rfl⟩
            have hbt := Lib.hid (hYb.out.setRow Z)
            have hbw3 := Lib.hid (below_setRow hbw2.out hg1 Z)
            have hgt : g < wt.heap.size := by rw [hwt, size_setRow]; omega
            rw [← hwt] at hbt hbw3
            rw [← hwt]
            clear hwt hzb hyb
            have hcell := hbt.out.cell
            have hfz := hbt.out.frozen
            go_wp2_with fail
            go_roundw
            case rel => exact ⟨k + 1, _, by omega, by go_num, Lib.hid (blk_setCell hbt.out 33 _), Lib.hid hst.out.next, Lib.hid (hbw3.out.setCell hg1 _), by rw [World.size_setCell]; omega⟩
            case measure => simp [intOf]; omega

end Go.Proofs.Ytikbkcidalippaa
