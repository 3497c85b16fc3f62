/-
  JustOrders walked, where Justify answers.
-/
import Derived.Test.YtikbkcidalippaaOrdLaw
import Derived.Test.YtikbkcidalippaaSums
namespace Go.Proofs.Ytikbkcidalippaa
open Go.RowKit
attribute [local irreducible] Hid Blk
set_option maxRecDepth 100000

theorem IsSt.recell {w : World} {B : Nat} {p r : Array Value} {L : Nat → List Value} (h : IsSt w B p L) (hr : WfC r) (he : ∀ k, isSO k → r[k]? = p[k]?) : IsSt w B r L :=
  ⟨hr, fun k hk => let ⟨a, n, c, e, s⟩ := h.sl k hk; ⟨a, n, c, (he k hk).trans e, s⟩, h.el⟩
theorem back_wf {cs p : Array Value} (h : WfC cs) (hp : WfC p) : WfC (patch (patch (patch (patch p 993 (cs.extract 993 (993 + 33))) 1026 (cs.extract 1026 (1026 + 33))) 1059 (cs.extract 1059 (1059 + 33))) 989 (cs.extract 989 (989 + 4))) := by
  have h3 := ((hp.mvchk h (o := 993) (p := 993) (.inl rfl) (.inl rfl)).mvchk h (o := 1026) (p := 1026) (.inr (.inl rfl)) (.inr (.inl rfl))).mvchk h (o := 1059) (p := 1059) (.inr (.inr rfl)) (.inr (.inr rfl))
  refine h3.patch (by have := h.size; simp; omega) fun j v hj => ?_
  obtain ⟨hj, hl⟩ := get_ext hj
  exact h.kind _ _ hj

set_option maxHeartbeats 8000000 in
theorem orders_good (cs : Array Value) (L : Nat → List Value) (B : Nat) (w : World) (hB : B ≤ w.heap.size) (h : IsSt w B cs L) (hr : RightP cs L) (hm : cN cs 33 % 4 = 3) :
    Calls Try.prog 7 #[.agg cs] w fun e w' => e = .returned (.bool true) ∧ Below w.heap.size w w' := by
  have H := Lib.hid h
  have Rp := Lib.hid hr
  have Hm := Lib.hid hm
  have hsz := Lib.hid h.wf.size
  have Hone := Lib.hid h.wf.ones
  have hsz1 : 1957 ≤ cs.size := Nat.le_of_eq h.wf.size.symm
  have hsz2 : cs.size ≤ 1957 := Nat.le_of_eq h.wf.size
  have hW : W64 (cN cs 33 / 4) := weigh_epoch h.wf
  have hW1 : W64 (subz (cN cs 33 / 4) 1) := subz_w hW ⟨by omega, by omega⟩
  have HW := Lib.hid hW
  have HW1 := Lib.hid hW1
  obtain ⟨U1, hU1⟩ : ∃ U, U = unsL (L 721) (L (lstK (cN cs 33 / 4) (subz (cN cs 33 / 4) 1))) (subz (cN cs 33 / 4) 1) 1 (cnt L 721) := ⟨_, rfl⟩
  obtain ⟨U2, hU2⟩ : ∃ U, U = unsL (L 721) (L (lstK (cN cs 33 / 4) (cN cs 33 / 4))) (cN cs 33 / 4) 1 (cnt L 721) := ⟨_, rfl⟩
  have HU1 := Lib.hid hU1.symm
  have HU2 := Lib.hid hU2.symm
  have hlen1 : U1.length ≤ 65536 := by rw [hU1]; exact Nat.le_trans (unsL_len _ _ _ _ _) hr.vals
  have hlen2 : U2.length ≤ 65536 := by rw [hU2]; exact Nat.le_trans (unsL_len _ _ _ _ _) hr.vals
  have HM1 : Hid (∀ i ∈ U1, i < cnt L 721) := Lib.hid (by rw [hU1]; exact fun i hi => List.mem_range.1 (List.mem_filter.1 hi).1)
  have HM2 : Hid (∀ i ∈ U2, i < cnt L 721) := Lib.hid (by rw [hU2]; exact fun i hi => List.mem_range.1 (List.mem_filter.1 hi).1)
  have hb1 := effL_bound (eff_of h hr) U1 HM1.out
  have hb2 := effL_bound (eff_of h hr) U2 HM2.out
  have HT1 : Hid (1 < cN cs 33 / 4 → max1 (effL (L 721) U1) = prevOf cs L) := Lib.hid (fun he => by
    have hne : subz (cN cs 33 / 4) 1 ≠ cN cs 33 / 4 := by unfold subz; split <;> omega
    rw [hU1, lstK_no hne]; unfold unsL prevOf; rw [effL_filter])
  have HT2 : Hid (max1 (effL (L 721) U2) = curOf cs L) := Lib.hid (by rw [hU2, lstK_yes]; unfold unsL curOf; rw [effL_filter])
  obtain ⟨t1, ht1⟩ : ∃ t, t = max1 (effL (L 721) U1) := ⟨_, rfl⟩
  obtain ⟨t2, ht2⟩ : ∃ t, t = max1 (effL (L 721) U2) := ⟨_, rfl⟩
  have hm1 := max1_bound hb1.1 (by omega)
  have hm2 := max1_bound hb2.1 (by omega)
  rw [← ht1] at HT1 hm1
  rw [← ht2] at HT2 hm2
  have E1 := Lib.hid ht1.symm
  have E2 := Lib.hid ht2.symm
  have hba := effTo_bound (eff_of h hr) (actB (L 721) (cN cs 33 / 4)) (cnt L 721) (Nat.le_refl _)
  have hmA : 1000000000 ≤ allOf cs L ∧ allOf cs L ≤ 2097152000000000 := max1_bound hba.1 (by have := hr.vals; omega)
  obtain ⟨hm1a, hm1b⟩ := hm1
  obtain ⟨hm2a, hm2b⟩ := hm2
  obtain ⟨hmAa, hmAb⟩ := hmA
  clear h hr hm hW hW1 hU1 hU2 hb1 hb2 ht1 ht2 hba
  go_enter Try.func7, Try.ntmps7
  go_upto_region 1 with fail
  obtain ⟨wx, hwx⟩ : ∃ wx : World, wx = w.alloc (.cells cs 49) := ⟨_, rfl⟩
  have hd : Below w.heap.size w wx := by rw [hwx]; exact (by (repeat (first | exact Below.refl _ _ | apply Below.drew | apply below_drewN | (refine Below.alloc ?_ ?_ _) | (refine below_setRow ?_ ?_ _) | (refine Below.setCell ?_ ?_ _) | (refine Below.trans ?_ (Below.mono (by assumption) ?_)) | omega | (focus (simp; done)) | (focus (simp; omega)))))
  have hk : Blk wx w.heap.size 49 cs := by rw [hwx]; exact (by (repeat (first | assumption | (apply Blk.newAt; (focus (simp; done))) | apply Blk.alloc | apply Blk.setRow | apply Blk.drewN | apply Blk.drew | (refine Blk.setRow_other ?_ ?_ _; focus (first | omega | (simp; omega))))))
  rw [← hwx]
  clear hwx
  have D0 := Lib.hid hd
  clear hd
  have hg := hk.lt
  go_upto_region 3 with (first
    | (go_at_call 8; refine (awake_any _).mono ?_; rintro e w1 ⟨rfl, hb1⟩; have hk1 := Blk.below hk hb1 hg; have D1 := Lib.hid (D0.out.trans (hb1.mono (by omega))); have hg1 := hk1.lt; clear hk hg hb1))
  go_upto_region 4 with (first
    | ((with_reducible apply l_loadw 49); (focus rfl); (focus (repeat (first | assumption | (apply Blk.newAt; (focus (simp; done))) | apply Blk.alloc | apply Blk.setRow | apply Blk.drewN | apply Blk.drew | (refine Blk.setRow_other ?_ ?_ _; focus (first | omega | (simp; omega)))))); (focus exact Try.underlying49); (focus rfl); (focus exact szState); (focus (first | exact omega | (first | omega | (simp; done) | (simp; omega) | assumption))); (try go_frame))
    | (go_at_call 14; refine (justify_go cs L w.heap.size _ (by omega) ((H.out.more hB).below D1.out) Rp.out Hm.out).mono ?_
       rintro e w2 ⟨p, rfl, hal, hst, hb2⟩
       have hk2 := Blk.below hk1 hb2 hg1
       have D2 := Lib.hid (D1.out.trans (hb2.mono (by omega)))
       have hg2 := hk2.lt
       have SP := Lib.hid hst
       have OP := Lib.hid (ord_of H.out.wf hst.wf hal)
       have hp1 : 1957 ≤ p.size := Nat.le_of_eq hst.wf.size.symm
       have hp2 : p.size ≤ 1957 := Nat.le_of_eq hst.wf.size
       have HPo := Lib.hid hst.wf.ones
       clear hk1 hg1 hb2 hal hst)
    | ((with_reducible apply l_alloc 49); (focus kernel_rfl); (try go_frame))
    | ((with_reducible apply l_storew 49); (focus rfl); (focus rfl); (focus (repeat (first | assumption | (apply Blk.newAt; (focus (simp; done))) | apply Blk.alloc | apply Blk.setRow | apply Blk.drewN | apply Blk.drew | (refine Blk.setRow_other ?_ ?_ _; focus (first | omega | (simp; omega)))))); (focus exact szState); (focus (first | exact omega | (first | omega | (simp; done) | (simp; omega) | assumption))); (focus (first | omega | (simp; done) | (simp; omega) | assumption)); (focus exact HPo.out); (focus (repeat (first | (apply setRow_eq_at; (focus (simp; done))) | (refine setRow_eq_past ?_ ?_; (focus (first | (simp; done) | omega | (simp; omega)))) | apply setRow_eq_drewN | apply setRow_eq_drew | rfl))); (try go_frame)))
  obtain ⟨w3, hw3⟩ : ∃ x : World, x = w2.alloc (.cells p 49) := ⟨_, rfl⟩
  obtain ⟨gy, hgy⟩ : ∃ g, g = w2.heap.size := ⟨_, rfl⟩
  have hgy2 : w.heap.size < gy := by rw [hgy]; exact hg2
  have X3 : Hid (Blk w3 w.heap.size 49 cs ∧ Blk w3 gy 49 p ∧ Below w.heap.size w w3 ∧ IsSt w3 gy p L) := Lib.hid (by
    rw [hw3, hgy]
    exact ⟨hk2.alloc _, Blk.new _ _ _, D2.out.alloc (by omega) _, SP.out.below ((Below.refl _ _).alloc (Nat.le_refl _) _)⟩)
  have hg3 : gy < w3.heap.size := X3.out.2.1.lt
  rw [← hw3, ← hgy]
  clear hw3 hgy hk2 D2 SP hg2 D0 D1
  go_upto_region 6 with fail
  obtain ⟨r1, hr1, er1⟩ := chk_eq (chkK_of X3.out.2.2.2.wf (o := 1059) (.inr (.inr rfl))) (chkK_of H.out.wf (o := 1059) (.inr (.inr rfl)))
  obtain ⟨r2, hr2, er2⟩ := chk_eq (chkK_of X3.out.2.2.2.wf (o := 1059) (.inr (.inr rfl))) (chkK_of H.out.wf (o := 993) (.inl rfl))
  obtain ⟨r3, hr3, er3⟩ := chk_eq (chkK_of X3.out.2.2.2.wf (o := 1059) (.inr (.inr rfl))) (chkK_of H.out.wf (o := 1026) (.inr (.inl rfl)))
  obtain ⟨r4, hr4, er4⟩ := chk_eq (chkK_of X3.out.2.2.2.wf (o := 1026) (.inr (.inl rfl))) (chkK_of H.out.wf (o := 1026) (.inr (.inl rfl)))
  have R1 := Lib.hid hr1; have R2 := Lib.hid hr2; have R3 := Lib.hid hr3; have R4 := Lib.hid hr4
  have ER : Hid (r1 = true ∨ r2 = true ∨ r3 = true) := Lib.hid (by
    rcases OP.out.fin with e | e | e
    · exact .inl (er1 e)
    · exact .inr (.inl (er2 e))
    · exact .inr (.inr (er3 e)))
  have ER4 := Lib.hid er4
  clear hr1 hr2 hr3 hr4 er1 er2 er3 er4
  go_cut [41] (fun t wq => t = .bool false ∧ wq = w3)
  case first =>
    have hk3 := X3.out.1
    have hy3 := X3.out.2.1
    cases r1
    case true =>
      go_upto_region 7 with (first | ((with_reducible apply l_load 42); (focus rfl); (focus (repeat (first | assumption | (apply Blk.newAt; (focus (simp; done))) | apply Blk.alloc | apply Blk.setRow | apply Blk.drewN | apply Blk.drew | (refine Blk.setRow_other ?_ ?_ _; focus (first | omega | (simp; omega)))))); (focus exact Try.underlying42); (focus rfl); (focus exact szCheck); (focus (first | omega | (simp; done) | (simp; omega) | assumption)); (try go_frame)) | ((with_reducible apply o_load 42); (focus rfl); (focus (repeat (first | assumption | (apply Blk.newAt; (focus (simp; done))) | apply Blk.alloc | apply Blk.setRow | apply Blk.drewN | apply Blk.drew | (refine Blk.setRow_other ?_ ?_ _; focus (first | omega | (simp; omega)))))); (focus exact Try.underlying42); (focus rfl); (focus exact szCheck); (focus (first | omega | (simp; done) | (simp; omega) | assumption)); (try simp only [Act.put, List.setIfInBounds_toArray, List.set_cons_zero, List.set_cons_succ])) | ((with_reducible apply l_neq 42); (focus rfl); (focus rfl); (focus exact eqg_chk); (focus exact R1.out _); (try go_frame)))
      go_meet
      exact ⟨rfl, rfl⟩
    case false =>
    cases r2
    case true =>
      go_upto_region 7 with (first | ((with_reducible apply l_load 42); (focus rfl); (focus (repeat (first | assumption | (apply Blk.newAt; (focus (simp; done))) | apply Blk.alloc | apply Blk.setRow | apply Blk.drewN | apply Blk.drew | (refine Blk.setRow_other ?_ ?_ _; focus (first | omega | (simp; omega)))))); (focus exact Try.underlying42); (focus rfl); (focus exact szCheck); (focus (first | omega | (simp; done) | (simp; omega) | assumption)); (try go_frame)) | ((with_reducible apply o_load 42); (focus rfl); (focus (repeat (first | assumption | (apply Blk.newAt; (focus (simp; done))) | apply Blk.alloc | apply Blk.setRow | apply Blk.drewN | apply Blk.drew | (refine Blk.setRow_other ?_ ?_ _; focus (first | omega | (simp; omega)))))); (focus exact Try.underlying42); (focus rfl); (focus exact szCheck); (focus (first | omega | (simp; done) | (simp; omega) | assumption)); (try simp only [Act.put, List.setIfInBounds_toArray, List.set_cons_zero, List.set_cons_succ])) | ((with_reducible apply l_neq 42); (focus rfl); (focus rfl); (focus exact eqg_chk); (focus exact R1.out _); (try go_frame)) | ((with_reducible apply o_neq 42); (focus rfl); (focus rfl); (focus exact eqg_chk); (focus exact R2.out _); (try simp only [Act.put, List.setIfInBounds_toArray, List.set_cons_zero, List.set_cons_succ])))
      go_meet
      exact ⟨rfl, rfl⟩
    case false =>
      obtain rfl : r3 = true := by
        rcases ER.out with e | e | e
        · cases e
        · cases e
        · exact e
      go_upto_region 7 with (first | ((with_reducible apply l_load 42); (focus rfl); (focus (repeat (first | assumption | (apply Blk.newAt; (focus (simp; done))) | apply Blk.alloc | apply Blk.setRow | apply Blk.drewN | apply Blk.drew | (refine Blk.setRow_other ?_ ?_ _; focus (first | omega | (simp; omega)))))); (focus exact Try.underlying42); (focus rfl); (focus exact szCheck); (focus (first | omega | (simp; done) | (simp; omega) | assumption)); (try go_frame)) | ((with_reducible apply o_load 42); (focus rfl); (focus (repeat (first | assumption | (apply Blk.newAt; (focus (simp; done))) | apply Blk.alloc | apply Blk.setRow | apply Blk.drewN | apply Blk.drew | (refine Blk.setRow_other ?_ ?_ _; focus (first | omega | (simp; omega)))))); (focus exact Try.underlying42); (focus rfl); (focus exact szCheck); (focus (first | omega | (simp; done) | (simp; omega) | assumption)); (try simp only [Act.put, List.setIfInBounds_toArray, List.set_cons_zero, List.set_cons_succ])) | ((with_reducible apply l_neq 42); (focus rfl); (focus rfl); (focus exact eqg_chk); (focus exact R1.out _); (try go_frame)) | ((with_reducible apply o_neq 42); (focus rfl); (focus rfl); (focus exact eqg_chk); (focus exact R2.out _); (try simp only [Act.put, List.setIfInBounds_toArray, List.set_cons_zero, List.set_cons_succ])) | ((with_reducible apply o_neq 42); (focus rfl); (focus rfl); (focus exact eqg_chk); (focus exact R3.out _); (try simp only [Act.put, List.setIfInBounds_toArray, List.set_cons_zero, List.set_cons_succ])))
      go_meet
      exact ⟨rfl, rfl⟩
  case rest =>
  obtain ⟨rfl, rfl⟩ := hcut
  clear R1 R2 R3 ER
  have hk3 := X3.out.1
  go_upto_region 9 with (first
    | ((with_reducible apply l_loadw 49); (focus rfl); (focus (repeat (first | assumption | (apply Blk.newAt; (focus (simp; done))) | apply Blk.alloc | apply Blk.setRow | apply Blk.drewN | apply Blk.drew | (refine Blk.setRow_other ?_ ?_ _; focus (first | omega | (simp; omega)))))); (focus exact Try.underlying49); (focus rfl); (focus exact szState); (focus (first | exact omega | (first | omega | (simp; done) | (simp; omega) | assumption))); (try go_frame))
    | (go_at_call 20; refine (repoch_any cs H.out.wf _).mono ?_
       rintro e w4 ⟨rfl, hb4⟩
       have B4 := Lib.hid hb4
       have hg4 := hb4.size
       clear hk3 hb4))
  have CX : Hid (∀ w', Below w4.heap.size w4 w' → ∀ i, w'.cell? ⟨w.heap.size, i, none⟩ = cs[i]?) := Lib.hid fun w' hb => ((X3.out.1.below B4.out (by omega)).below hb (by omega)).cell
  have CY : Hid (∀ w', Below w4.heap.size w4 w' → ∀ i, w'.cell? ⟨gy, i, none⟩ = p[i]?) := Lib.hid fun w' hb => ((X3.out.2.1.below B4.out (by omega)).below hb (by omega)).cell
  have KX : Hid (∀ w', Below w4.heap.size w4 w' → Blk w' w.heap.size 49 cs) := Lib.hid fun w' hb => ((X3.out.1.below B4.out (by omega)).below hb (by omega))
  have KY : Hid (∀ w', Below w4.heap.size w4 w' → Blk w' gy 49 p) := Lib.hid fun w' hb => ((X3.out.2.1.below B4.out (by omega)).below hb (by omega))
  have DW : Hid (∀ w', Below w4.heap.size w4 w' → Below w.heap.size w w' ∧ IsSt w' w.heap.size cs L ∧ IsSt w' gy p L) := Lib.hid fun w' hb => by
    have t1 := X3.out.2.2.1.trans (B4.out.mono (by omega))
    have t2 := t1.trans (hb.mono (by omega))
    exact ⟨t2, (H.out.more hB).below t2, (X3.out.2.2.2.below (B4.out.mono (by omega))).below (hb.mono (by omega))⟩
  have VX : Hid (cs[1059]? = some (.int .u64 (cN cs 1059)) ∧ cs[1026]? = some (.int .u64 (cN cs 1026)) ∧ cs[993]? = some (.int .u64 (cN cs 993))) := Lib.hid ⟨(H.out.wf.u64 1059 rfl).1, (H.out.wf.u64 1026 rfl).1, (H.out.wf.u64 993 rfl).1⟩
  have VY : Hid (p[1059]? = some (.int .u64 (cN p 1059)) ∧ p[1026]? = some (.int .u64 (cN p 1026)) ∧ p[989]? = some (.bool (cB p 989))) := Lib.hid ⟨(X3.out.2.2.2.wf.u64 1059 rfl).1, (X3.out.2.2.2.wf.u64 1026 rfl).1, X3.out.2.2.2.wf.bool 989 rfl⟩
  have hrefl : ∀ (x : World) (b : Nat), Below b x x.drew := fun x b => (Below.refl _ _).drew
  have HREF := Lib.hid hrefl
  clear hrefl
  go_cut [76] (fun t wq => t = .bool false ∧ Hid (Below w4.heap.size w4 wq))
  case first =>
    have hrefl := HREF.out
    by_cases cA0 : cN cs 1059 ≤ cN cs 1026
    case neg =>
      have FA := Lib.hid (decide_eq_false cA0)
      refine wp_region_held_drew (S := Below w4.heap.size w4) (by kernel_rfl) (hrefl _ _) (fun hHeld => ?_)
      (refine takeD 0 (some 44) (v := ?_) rfl rfl (by kernel_rfl) (by kernel_rfl) (by kernel_rfl) (fun _ _ _ h => h) (by assumption) (Or.inl ⟨by rfl, ?_⟩) ?_; rotate_left; (focus (intro w' hS; skip; go_simp; (try (with_reducible rfl)); done)); (try simp only [Act.put, List.setIfInBounds_toArray, List.set_cons_zero, List.set_cons_succ]))
      (refine takeD 1 (some 45) (v := ?_) rfl rfl (by kernel_rfl) (by kernel_rfl) (by kernel_rfl) (fun _ _ _ h => h) (by assumption) (Or.inl ⟨by rfl, ?_⟩) ?_; rotate_left; (focus (intro w' hS; skip; go_simp; (try (with_reducible rfl)); done)); (try simp only [Act.put, List.setIfInBounds_toArray, List.set_cons_zero, List.set_cons_succ]))
      (refine takeD 2 (some 46) (v := ?_) rfl rfl (by kernel_rfl) (by kernel_rfl) (by kernel_rfl) (fun _ _ _ h => h) (by assumption) (Or.inl ⟨by rfl, ?_⟩) ?_; rotate_left; (focus (intro w' hS; (have hc := CX.out _ hS 1059; have hv := VX.out.1; rw [hv] at hc); go_simp; (try (with_reducible rfl)); done)); (try simp only [Act.put, List.setIfInBounds_toArray, List.set_cons_zero, List.set_cons_succ]))
      (refine takeD 3 (some 47) (v := ?_) rfl rfl (by kernel_rfl) (by kernel_rfl) (by kernel_rfl) (fun _ _ _ h => h) (by assumption) (Or.inl ⟨by rfl, ?_⟩) ?_; rotate_left; (focus (intro w' hS; skip; go_simp; (try (with_reducible rfl)); done)); (try simp only [Act.put, List.setIfInBounds_toArray, List.set_cons_zero, List.set_cons_succ]))
      (refine takeD 4 (some 48) (v := ?_) rfl rfl (by kernel_rfl) (by kernel_rfl) (by kernel_rfl) (fun _ _ _ h => h) (by assumption) (Or.inl ⟨by rfl, ?_⟩) ?_; rotate_left; (focus (intro w' hS; skip; go_simp; (try (with_reducible rfl)); done)); (try simp only [Act.put, List.setIfInBounds_toArray, List.set_cons_zero, List.set_cons_succ]))
      (refine takeD 5 (some 49) (v := ?_) rfl rfl (by kernel_rfl) (by kernel_rfl) (by kernel_rfl) (fun _ _ _ h => h) (by assumption) (Or.inl ⟨by rfl, ?_⟩) ?_; rotate_left; (focus (intro w' hS; (have hc := CX.out _ hS 1026; have hv := VX.out.2.1; rw [hv] at hc); go_simp; (try (with_reducible rfl)); done)); (try simp only [Act.put, List.setIfInBounds_toArray, List.set_cons_zero, List.set_cons_succ]))
      (refine takeD 6 (some 50) (v := ?_) rfl rfl (by kernel_rfl) (by kernel_rfl) (by kernel_rfl) (fun _ _ _ h => h) (by assumption) (Or.inl ⟨by rfl, ?_⟩) ?_; rotate_left; (focus (intro w' hS; have hf := FA.out; go_simp; (try (with_reducible rfl)); done)); (try simp only [Act.put, List.setIfInBounds_toArray, List.set_cons_zero, List.set_cons_succ]))
      (refine takeD 7 (some 51) (v := ?_) rfl rfl (by kernel_rfl) (by kernel_rfl) (by kernel_rfl) (fun _ _ _ h => h) (by assumption) (Or.inl ⟨by rfl, ?_⟩) ?_; rotate_left; (focus (intro w' hS; skip; go_simp; (try (with_reducible rfl)); done)); (try simp only [Act.put, List.setIfInBounds_toArray, List.set_cons_zero, List.set_cons_succ]))
      (refine takeD 8 (some 52) (v := undef) rfl rfl (by kernel_rfl) (by kernel_rfl) (by kernel_rfl) (fun _ _ _ h => h) (by assumption) (Or.inr ⟨by rfl, rfl⟩) ?_; (try simp only [Act.put, List.setIfInBounds_toArray, List.set_cons_zero, List.set_cons_succ]))
      (refine takeD 9 (some 53) (v := undef) rfl rfl (by kernel_rfl) (by kernel_rfl) (by kernel_rfl) (fun _ _ _ h => h) (by assumption) (Or.inr ⟨by rfl, rfl⟩) ?_; (try simp only [Act.put, List.setIfInBounds_toArray, List.set_cons_zero, List.set_cons_succ]))
      (refine takeD 10 (some 54) (v := undef) rfl rfl (by kernel_rfl) (by kernel_rfl) (by kernel_rfl) (fun _ _ _ h => h) (by assumption) (Or.inr ⟨by rfl, rfl⟩) ?_; (try simp only [Act.put, List.setIfInBounds_toArray, List.set_cons_zero, List.set_cons_succ]))
      (refine takeD 11 (some 55) (v := undef) rfl rfl (by kernel_rfl) (by kernel_rfl) (by kernel_rfl) (fun _ _ _ h => h) (by assumption) (Or.inr ⟨by rfl, rfl⟩) ?_; (try simp only [Act.put, List.setIfInBounds_toArray, List.set_cons_zero, List.set_cons_succ]))
      (refine takeD 12 (some 56) (v := undef) rfl rfl (by kernel_rfl) (by kernel_rfl) (by kernel_rfl) (fun _ _ _ h => h) (by assumption) (Or.inr ⟨by rfl, rfl⟩) ?_; (try simp only [Act.put, List.setIfInBounds_toArray, List.set_cons_zero, List.set_cons_succ]))
      (refine takeD 13 (some 57) (v := undef) rfl rfl (by kernel_rfl) (by kernel_rfl) (by kernel_rfl) (fun _ _ _ h => h) (by assumption) (Or.inr ⟨by rfl, rfl⟩) ?_; (try simp only [Act.put, List.setIfInBounds_toArray, List.set_cons_zero, List.set_cons_succ]))
      (refine takeD 14 (some 58) (v := undef) rfl rfl (by kernel_rfl) (by kernel_rfl) (by kernel_rfl) (fun _ _ _ h => h) (by assumption) (Or.inr ⟨by rfl, rfl⟩) ?_; (try simp only [Act.put, List.setIfInBounds_toArray, List.set_cons_zero, List.set_cons_succ]))
      (refine takeD 15 (some 59) (v := ?_) rfl rfl (by kernel_rfl) (by kernel_rfl) (by kernel_rfl) (fun _ _ _ h => h) (by assumption) (Or.inl ⟨by rfl, ?_⟩) ?_; rotate_left; (focus (intro w' hS; skip; go_simp; (try (with_reducible rfl)); done)); (try simp only [Act.put, List.setIfInBounds_toArray, List.set_cons_zero, List.set_cons_succ]))
      (refine takeD 16 (some 60) (v := ?_) rfl rfl (by kernel_rfl) (by kernel_rfl) (by kernel_rfl) (fun _ _ _ h => h) (by assumption) (Or.inl ⟨by rfl, ?_⟩) ?_; rotate_left; (focus (intro w' hS; skip; go_simp; (try (with_reducible rfl)); done)); (try simp only [Act.put, List.setIfInBounds_toArray, List.set_cons_zero, List.set_cons_succ]))
      (refine takeD 17 (some 61) (v := undef) rfl rfl (by kernel_rfl) (by kernel_rfl) (by kernel_rfl) (fun _ _ _ h => h) (by assumption) (Or.inr ⟨by rfl, rfl⟩) ?_; (try simp only [Act.put, List.setIfInBounds_toArray, List.set_cons_zero, List.set_cons_succ]))
      (refine takeD 18 (some 62) (v := undef) rfl rfl (by kernel_rfl) (by kernel_rfl) (by kernel_rfl) (fun _ _ _ h => h) (by assumption) (Or.inr ⟨by rfl, rfl⟩) ?_; (try simp only [Act.put, List.setIfInBounds_toArray, List.set_cons_zero, List.set_cons_succ]))
      (refine takeD 19 (some 63) (v := undef) rfl rfl (by kernel_rfl) (by kernel_rfl) (by kernel_rfl) (fun _ _ _ h => h) (by assumption) (Or.inr ⟨by rfl, rfl⟩) ?_; (try simp only [Act.put, List.setIfInBounds_toArray, List.set_cons_zero, List.set_cons_succ]))
      (refine takeD 20 (some 64) (v := undef) rfl rfl (by kernel_rfl) (by kernel_rfl) (by kernel_rfl) (fun _ _ _ h => h) (by assumption) (Or.inr ⟨by rfl, rfl⟩) ?_; (try simp only [Act.put, List.setIfInBounds_toArray, List.set_cons_zero, List.set_cons_succ]))
      (refine takeD 21 (some 65) (v := undef) rfl rfl (by kernel_rfl) (by kernel_rfl) (by kernel_rfl) (fun _ _ _ h => h) (by assumption) (Or.inr ⟨by rfl, rfl⟩) ?_; (try simp only [Act.put, List.setIfInBounds_toArray, List.set_cons_zero, List.set_cons_succ]))
      (refine takeD 22 (some 66) (v := undef) rfl rfl (by kernel_rfl) (by kernel_rfl) (by kernel_rfl) (fun _ _ _ h => h) (by assumption) (Or.inr ⟨by rfl, rfl⟩) ?_; (try simp only [Act.put, List.setIfInBounds_toArray, List.set_cons_zero, List.set_cons_succ]))
      (refine takeD 23 (some 67) (v := ?_) rfl rfl (by kernel_rfl) (by kernel_rfl) (by kernel_rfl) (fun _ _ _ h => h) (by assumption) (Or.inl ⟨by rfl, ?_⟩) ?_; rotate_left; (focus (intro w' hS; skip; go_simp; (try (with_reducible rfl)); done)); (try simp only [Act.put, List.setIfInBounds_toArray, List.set_cons_zero, List.set_cons_succ]))
      (refine takeD 24 (some 68) (v := ?_) rfl rfl (by kernel_rfl) (by kernel_rfl) (by kernel_rfl) (fun _ _ _ h => h) (by assumption) (Or.inl ⟨by rfl, ?_⟩) ?_; rotate_left; (focus (intro w' hS; skip; go_simp; (try (with_reducible rfl)); done)); (try simp only [Act.put, List.setIfInBounds_toArray, List.set_cons_zero, List.set_cons_succ]))
      (refine takeD 25 (some 69) (v := undef) rfl rfl (by kernel_rfl) (by kernel_rfl) (by kernel_rfl) (fun _ _ _ h => h) (by assumption) (Or.inr ⟨by rfl, rfl⟩) ?_; (try simp only [Act.put, List.setIfInBounds_toArray, List.set_cons_zero, List.set_cons_succ]))
      (refine takeD 26 (some 70) (v := undef) rfl rfl (by kernel_rfl) (by kernel_rfl) (by kernel_rfl) (fun _ _ _ h => h) (by assumption) (Or.inr ⟨by rfl, rfl⟩) ?_; (try simp only [Act.put, List.setIfInBounds_toArray, List.set_cons_zero, List.set_cons_succ]))
      (refine takeD 27 (some 71) (v := undef) rfl rfl (by kernel_rfl) (by kernel_rfl) (by kernel_rfl) (fun _ _ _ h => h) (by assumption) (Or.inr ⟨by rfl, rfl⟩) ?_; (try simp only [Act.put, List.setIfInBounds_toArray, List.set_cons_zero, List.set_cons_succ]))
      (refine takeD 28 (some 72) (v := undef) rfl rfl (by kernel_rfl) (by kernel_rfl) (by kernel_rfl) (fun _ _ _ h => h) (by assumption) (Or.inr ⟨by rfl, rfl⟩) ?_; (try simp only [Act.put, List.setIfInBounds_toArray, List.set_cons_zero, List.set_cons_succ]))
      (refine takeD 29 (some 73) (v := undef) rfl rfl (by kernel_rfl) (by kernel_rfl) (by kernel_rfl) (fun _ _ _ h => h) (by assumption) (Or.inr ⟨by rfl, rfl⟩) ?_; (try simp only [Act.put, List.setIfInBounds_toArray, List.set_cons_zero, List.set_cons_succ]))
      (refine takeD 30 (some 74) (v := undef) rfl rfl (by kernel_rfl) (by kernel_rfl) (by kernel_rfl) (fun _ _ _ h => h) (by assumption) (Or.inr ⟨by rfl, rfl⟩) ?_; (try simp only [Act.put, List.setIfInBounds_toArray, List.set_cons_zero, List.set_cons_succ]))
      (refine takeD 31 (some 75) (v := undef) rfl rfl (by kernel_rfl) (by kernel_rfl) (by kernel_rfl) (fun _ _ _ h => h) (by assumption) (Or.inr ⟨by rfl, rfl⟩) ?_; (try simp only [Act.put, List.setIfInBounds_toArray, List.set_cons_zero, List.set_cons_succ]))
      (refine takeD 32 (some 76) (v := ?_) rfl rfl (by kernel_rfl) (by kernel_rfl) (by kernel_rfl) (fun _ _ _ h => h) (by assumption) (Or.inl ⟨by rfl, ?_⟩) ?_; rotate_left; (focus (intro w' hS; skip; go_simp; (try (with_reducible rfl)); done)); (try simp only [Act.put, List.setIfInBounds_toArray, List.set_cons_zero, List.set_cons_succ]))
      refine wpAnyH_done (by kernel_rfl) ?_ _
      have hfin := Lib.hid (hrefl w4 w4.heap.size)
      clear hHeld hrefl
      go_wp2_with fail
      go_meet
      exact ⟨rfl, hfin⟩
    have FA := Lib.hid (decide_eq_true cA0)
    by_cases cB0 : cN cs 993 ≤ cN cs 1026
    case neg =>
      have FB := Lib.hid (decide_eq_false cB0)
      refine wp_region_held_drew (S := Below w4.heap.size w4) (by kernel_rfl) (hrefl _ _) (fun hHeld => ?_)
      (refine takeD 0 (some 44) (v := ?_) rfl rfl (by kernel_rfl) (by kernel_rfl) (by kernel_rfl) (fun _ _ _ h => h) (by assumption) (Or.inl ⟨by rfl, ?_⟩) ?_; rotate_left; (focus (intro w' hS; skip; go_simp; (try (with_reducible rfl)); done)); (try simp only [Act.put, List.setIfInBounds_toArray, List.set_cons_zero, List.set_cons_succ]))
      (refine takeD 1 (some 45) (v := ?_) rfl rfl (by kernel_rfl) (by kernel_rfl) (by kernel_rfl) (fun _ _ _ h => h) (by assumption) (Or.inl ⟨by rfl, ?_⟩) ?_; rotate_left; (focus (intro w' hS; skip; go_simp; (try (with_reducible rfl)); done)); (try simp only [Act.put, List.setIfInBounds_toArray, List.set_cons_zero, List.set_cons_succ]))
      (refine takeD 2 (some 46) (v := ?_) rfl rfl (by kernel_rfl) (by kernel_rfl) (by kernel_rfl) (fun _ _ _ h => h) (by assumption) (Or.inl ⟨by rfl, ?_⟩) ?_; rotate_left; (focus (intro w' hS; (have hc := CX.out _ hS 1059; have hv := VX.out.1; rw [hv] at hc); go_simp; (try (with_reducible rfl)); done)); (try simp only [Act.put, List.setIfInBounds_toArray, List.set_cons_zero, List.set_cons_succ]))
      (refine takeD 3 (some 47) (v := ?_) rfl rfl (by kernel_rfl) (by kernel_rfl) (by kernel_rfl) (fun _ _ _ h => h) (by assumption) (Or.inl ⟨by rfl, ?_⟩) ?_; rotate_left; (focus (intro w' hS; skip; go_simp; (try (with_reducible rfl)); done)); (try simp only [Act.put, List.setIfInBounds_toArray, List.set_cons_zero, List.set_cons_succ]))
      (refine takeD 4 (some 48) (v := ?_) rfl rfl (by kernel_rfl) (by kernel_rfl) (by kernel_rfl) (fun _ _ _ h => h) (by assumption) (Or.inl ⟨by rfl, ?_⟩) ?_; rotate_left; (focus (intro w' hS; skip; go_simp; (try (with_reducible rfl)); done)); (try simp only [Act.put, List.setIfInBounds_toArray, List.set_cons_zero, List.set_cons_succ]))
      (refine takeD 5 (some 49) (v := ?_) rfl rfl (by kernel_rfl) (by kernel_rfl) (by kernel_rfl) (fun _ _ _ h => h) (by assumption) (Or.inl ⟨by rfl, ?_⟩) ?_; rotate_left; (focus (intro w' hS; (have hc := CX.out _ hS 1026; have hv := VX.out.2.1; rw [hv] at hc); go_simp; (try (with_reducible rfl)); done)); (try simp only [Act.put, List.setIfInBounds_toArray, List.set_cons_zero, List.set_cons_succ]))
      (refine takeD 6 (some 50) (v := ?_) rfl rfl (by kernel_rfl) (by kernel_rfl) (by kernel_rfl) (fun _ _ _ h => h) (by assumption) (Or.inl ⟨by rfl, ?_⟩) ?_; rotate_left; (focus (intro w' hS; have hf := FA.out; go_simp; (try (with_reducible rfl)); done)); (try simp only [Act.put, List.setIfInBounds_toArray, List.set_cons_zero, List.set_cons_succ]))
      (refine takeD 7 (some 51) (v := ?_) rfl rfl (by kernel_rfl) (by kernel_rfl) (by kernel_rfl) (fun _ _ _ h => h) (by assumption) (Or.inl ⟨by rfl, ?_⟩) ?_; rotate_left; (focus (intro w' hS; skip; go_simp; (try (with_reducible rfl)); done)); (try simp only [Act.put, List.setIfInBounds_toArray, List.set_cons_zero, List.set_cons_succ]))
      (refine takeD 8 (some 52) (v := ?_) rfl rfl (by kernel_rfl) (by kernel_rfl) (by kernel_rfl) (fun _ _ _ h => h) (by assumption) (Or.inl ⟨by rfl, ?_⟩) ?_; rotate_left; (focus (intro w' hS; skip; go_simp; (try (with_reducible rfl)); done)); (try simp only [Act.put, List.setIfInBounds_toArray, List.set_cons_zero, List.set_cons_succ]))
      (refine takeD 9 (some 53) (v := ?_) rfl rfl (by kernel_rfl) (by kernel_rfl) (by kernel_rfl) (fun _ _ _ h => h) (by assumption) (Or.inl ⟨by rfl, ?_⟩) ?_; rotate_left; (focus (intro w' hS; skip; go_simp; (try (with_reducible rfl)); done)); (try simp only [Act.put, List.setIfInBounds_toArray, List.set_cons_zero, List.set_cons_succ]))
      (refine takeD 10 (some 54) (v := ?_) rfl rfl (by kernel_rfl) (by kernel_rfl) (by kernel_rfl) (fun _ _ _ h => h) (by assumption) (Or.inl ⟨by rfl, ?_⟩) ?_; rotate_left; (focus (intro w' hS; (have hc := CX.out _ hS 993; have hv := VX.out.2.2; rw [hv] at hc); go_simp; (try (with_reducible rfl)); done)); (try simp only [Act.put, List.setIfInBounds_toArray, List.set_cons_zero, List.set_cons_succ]))
      (refine takeD 11 (some 55) (v := ?_) rfl rfl (by kernel_rfl) (by kernel_rfl) (by kernel_rfl) (fun _ _ _ h => h) (by assumption) (Or.inl ⟨by rfl, ?_⟩) ?_; rotate_left; (focus (intro w' hS; skip; go_simp; (try (with_reducible rfl)); done)); (try simp only [Act.put, List.setIfInBounds_toArray, List.set_cons_zero, List.set_cons_succ]))
      (refine takeD 12 (some 56) (v := ?_) rfl rfl (by kernel_rfl) (by kernel_rfl) (by kernel_rfl) (fun _ _ _ h => h) (by assumption) (Or.inl ⟨by rfl, ?_⟩) ?_; rotate_left; (focus (intro w' hS; skip; go_simp; (try (with_reducible rfl)); done)); (try simp only [Act.put, List.setIfInBounds_toArray, List.set_cons_zero, List.set_cons_succ]))
      (refine takeD 13 (some 57) (v := ?_) rfl rfl (by kernel_rfl) (by kernel_rfl) (by kernel_rfl) (fun _ _ _ h => h) (by assumption) (Or.inl ⟨by rfl, ?_⟩) ?_; rotate_left; (focus (intro w' hS; (have hc := CX.out _ hS 1026; have hv := VX.out.2.1; rw [hv] at hc); go_simp; (try (with_reducible rfl)); done)); (try simp only [Act.put, List.setIfInBounds_toArray, List.set_cons_zero, List.set_cons_succ]))
      (refine takeD 14 (some 58) (v := ?_) rfl rfl (by kernel_rfl) (by kernel_rfl) (by kernel_rfl) (fun _ _ _ h => h) (by assumption) (Or.inl ⟨by rfl, ?_⟩) ?_; rotate_left; (focus (intro w' hS; have hf := FB.out; go_simp; (try (with_reducible rfl)); done)); (try simp only [Act.put, List.setIfInBounds_toArray, List.set_cons_zero, List.set_cons_succ]))
      (refine takeD 15 (some 59) (v := ?_) rfl rfl (by kernel_rfl) (by kernel_rfl) (by kernel_rfl) (fun _ _ _ h => h) (by assumption) (Or.inl ⟨by rfl, ?_⟩) ?_; rotate_left; (focus (intro w' hS; skip; go_simp; (try (with_reducible rfl)); done)); (try simp only [Act.put, List.setIfInBounds_toArray, List.set_cons_zero, List.set_cons_succ]))
      (refine takeD 16 (some 60) (v := ?_) rfl rfl (by kernel_rfl) (by kernel_rfl) (by kernel_rfl) (fun _ _ _ h => h) (by assumption) (Or.inl ⟨by rfl, ?_⟩) ?_; rotate_left; (focus (intro w' hS; skip; go_simp; (try (with_reducible rfl)); done)); (try simp only [Act.put, List.setIfInBounds_toArray, List.set_cons_zero, List.set_cons_succ]))
      (refine takeD 17 (some 61) (v := undef) rfl rfl (by kernel_rfl) (by kernel_rfl) (by kernel_rfl) (fun _ _ _ h => h) (by assumption) (Or.inr ⟨by rfl, rfl⟩) ?_; (try simp only [Act.put, List.setIfInBounds_toArray, List.set_cons_zero, List.set_cons_succ]))
      (refine takeD 18 (some 62) (v := undef) rfl rfl (by kernel_rfl) (by kernel_rfl) (by kernel_rfl) (fun _ _ _ h => h) (by assumption) (Or.inr ⟨by rfl, rfl⟩) ?_; (try simp only [Act.put, List.setIfInBounds_toArray, List.set_cons_zero, List.set_cons_succ]))
      (refine takeD 19 (some 63) (v := undef) rfl rfl (by kernel_rfl) (by kernel_rfl) (by kernel_rfl) (fun _ _ _ h => h) (by assumption) (Or.inr ⟨by rfl, rfl⟩) ?_; (try simp only [Act.put, List.setIfInBounds_toArray, List.set_cons_zero, List.set_cons_succ]))
      (refine takeD 20 (some 64) (v := undef) rfl rfl (by kernel_rfl) (by kernel_rfl) (by kernel_rfl) (fun _ _ _ h => h) (by assumption) (Or.inr ⟨by rfl, rfl⟩) ?_; (try simp only [Act.put, List.setIfInBounds_toArray, List.set_cons_zero, List.set_cons_succ]))
      (refine takeD 21 (some 65) (v := undef) rfl rfl (by kernel_rfl) (by kernel_rfl) (by kernel_rfl) (fun _ _ _ h => h) (by assumption) (Or.inr ⟨by rfl, rfl⟩) ?_; (try simp only [Act.put, List.setIfInBounds_toArray, List.set_cons_zero, List.set_cons_succ]))
      (refine takeD 22 (some 66) (v := undef) rfl rfl (by kernel_rfl) (by kernel_rfl) (by kernel_rfl) (fun _ _ _ h => h) (by assumption) (Or.inr ⟨by rfl, rfl⟩) ?_; (try simp only [Act.put, List.setIfInBounds_toArray, List.set_cons_zero, List.set_cons_succ]))
      (refine takeD 23 (some 67) (v := ?_) rfl rfl (by kernel_rfl) (by kernel_rfl) (by kernel_rfl) (fun _ _ _ h => h) (by assumption) (Or.inl ⟨by rfl, ?_⟩) ?_; rotate_left; (focus (intro w' hS; skip; go_simp; (try (with_reducible rfl)); done)); (try simp only [Act.put, List.setIfInBounds_toArray, List.set_cons_zero, List.set_cons_succ]))
      (refine takeD 24 (some 68) (v := ?_) rfl rfl (by kernel_rfl) (by kernel_rfl) (by kernel_rfl) (fun _ _ _ h => h) (by assumption) (Or.inl ⟨by rfl, ?_⟩) ?_; rotate_left; (focus (intro w' hS; skip; go_simp; (try (with_reducible rfl)); done)); (try simp only [Act.put, List.setIfInBounds_toArray, List.set_cons_zero, List.set_cons_succ]))
      (refine takeD 25 (some 69) (v := undef) rfl rfl (by kernel_rfl) (by kernel_rfl) (by kernel_rfl) (fun _ _ _ h => h) (by assumption) (Or.inr ⟨by rfl, rfl⟩) ?_; (try simp only [Act.put, List.setIfInBounds_toArray, List.set_cons_zero, List.set_cons_succ]))
      (refine takeD 26 (some 70) (v := undef) rfl rfl (by kernel_rfl) (by kernel_rfl) (by kernel_rfl) (fun _ _ _ h => h) (by assumption) (Or.inr ⟨by rfl, rfl⟩) ?_; (try simp only [Act.put, List.setIfInBounds_toArray, List.set_cons_zero, List.set_cons_succ]))
      (refine takeD 27 (some 71) (v := undef) rfl rfl (by kernel_rfl) (by kernel_rfl) (by kernel_rfl) (fun _ _ _ h => h) (by assumption) (Or.inr ⟨by rfl, rfl⟩) ?_; (try simp only [Act.put, List.setIfInBounds_toArray, List.set_cons_zero, List.set_cons_succ]))
      (refine takeD 28 (some 72) (v := undef) rfl rfl (by kernel_rfl) (by kernel_rfl) (by kernel_rfl) (fun _ _ _ h => h) (by assumption) (Or.inr ⟨by rfl, rfl⟩) ?_; (try simp only [Act.put, List.setIfInBounds_toArray, List.set_cons_zero, List.set_cons_succ]))
      (refine takeD 29 (some 73) (v := undef) rfl rfl (by kernel_rfl) (by kernel_rfl) (by kernel_rfl) (fun _ _ _ h => h) (by assumption) (Or.inr ⟨by rfl, rfl⟩) ?_; (try simp only [Act.put, List.setIfInBounds_toArray, List.set_cons_zero, List.set_cons_succ]))
      (refine takeD 30 (some 74) (v := undef) rfl rfl (by kernel_rfl) (by kernel_rfl) (by kernel_rfl) (fun _ _ _ h => h) (by assumption) (Or.inr ⟨by rfl, rfl⟩) ?_; (try simp only [Act.put, List.setIfInBounds_toArray, List.set_cons_zero, List.set_cons_succ]))
      (refine takeD 31 (some 75) (v := undef) rfl rfl (by kernel_rfl) (by kernel_rfl) (by kernel_rfl) (fun _ _ _ h => h) (by assumption) (Or.inr ⟨by rfl, rfl⟩) ?_; (try simp only [Act.put, List.setIfInBounds_toArray, List.set_cons_zero, List.set_cons_succ]))
      (refine takeD 32 (some 76) (v := ?_) rfl rfl (by kernel_rfl) (by kernel_rfl) (by kernel_rfl) (fun _ _ _ h => h) (by assumption) (Or.inl ⟨by rfl, ?_⟩) ?_; rotate_left; (focus (intro w' hS; skip; go_simp; (try (with_reducible rfl)); done)); (try simp only [Act.put, List.setIfInBounds_toArray, List.set_cons_zero, List.set_cons_succ]))
      refine wpAnyH_done (by kernel_rfl) ?_ _
      have hfin := Lib.hid (hrefl w4 w4.heap.size)
      clear hHeld hrefl
      go_wp2_with fail
      go_meet
      exact ⟨rfl, hfin⟩
    have FB := Lib.hid (decide_eq_true cB0)
    by_cases cC0 : cN cs 1026 ≤ subz (cN cs 33 / 4) 1
    case neg =>
      have FC := Lib.hid (decide_eq_false cC0)
      refine wp_region_held_drew (S := Below w4.heap.size w4) (by kernel_rfl) (hrefl _ _) (fun hHeld => ?_)
      (refine takeD 0 (some 44) (v := ?_) rfl rfl (by kernel_rfl) (by kernel_rfl) (by kernel_rfl) (fun _ _ _ h => h) (by assumption) (Or.inl ⟨by rfl, ?_⟩) ?_; rotate_left; (focus (intro w' hS; skip; go_simp; (try (with_reducible rfl)); done)); (try simp only [Act.put, List.setIfInBounds_toArray, List.set_cons_zero, List.set_cons_succ]))
      (refine takeD 1 (some 45) (v := ?_) rfl rfl (by kernel_rfl) (by kernel_rfl) (by kernel_rfl) (fun _ _ _ h => h) (by assumption) (Or.inl ⟨by rfl, ?_⟩) ?_; rotate_left; (focus (intro w' hS; skip; go_simp; (try (with_reducible rfl)); done)); (try simp only [Act.put, List.setIfInBounds_toArray, List.set_cons_zero, List.set_cons_succ]))
      (refine takeD 2 (some 46) (v := ?_) rfl rfl (by kernel_rfl) (by kernel_rfl) (by kernel_rfl) (fun _ _ _ h => h) (by assumption) (Or.inl ⟨by rfl, ?_⟩) ?_; rotate_left; (focus (intro w' hS; (have hc := CX.out _ hS 1059; have hv := VX.out.1; rw [hv] at hc); go_simp; (try (with_reducible rfl)); done)); (try simp only [Act.put, List.setIfInBounds_toArray, List.set_cons_zero, List.set_cons_succ]))
      (refine takeD 3 (some 47) (v := ?_) rfl rfl (by kernel_rfl) (by kernel_rfl) (by kernel_rfl) (fun _ _ _ h => h) (by assumption) (Or.inl ⟨by rfl, ?_⟩) ?_; rotate_left; (focus (intro w' hS; skip; go_simp; (try (with_reducible rfl)); done)); (try simp only [Act.put, List.setIfInBounds_toArray, List.set_cons_zero, List.set_cons_succ]))
      (refine takeD 4 (some 48) (v := ?_) rfl rfl (by kernel_rfl) (by kernel_rfl) (by kernel_rfl) (fun _ _ _ h => h) (by assumption) (Or.inl ⟨by rfl, ?_⟩) ?_; rotate_left; (focus (intro w' hS; skip; go_simp; (try (with_reducible rfl)); done)); (try simp only [Act.put, List.setIfInBounds_toArray, List.set_cons_zero, List.set_cons_succ]))
      (refine takeD 5 (some 49) (v := ?_) rfl rfl (by kernel_rfl) (by kernel_rfl) (by kernel_rfl) (fun _ _ _ h => h) (by assumption) (Or.inl ⟨by rfl, ?_⟩) ?_; rotate_left; (focus (intro w' hS; (have hc := CX.out _ hS 1026; have hv := VX.out.2.1; rw [hv] at hc); go_simp; (try (with_reducible rfl)); done)); (try simp only [Act.put, List.setIfInBounds_toArray, List.set_cons_zero, List.set_cons_succ]))
      (refine takeD 6 (some 50) (v := ?_) rfl rfl (by kernel_rfl) (by kernel_rfl) (by kernel_rfl) (fun _ _ _ h => h) (by assumption) (Or.inl ⟨by rfl, ?_⟩) ?_; rotate_left; (focus (intro w' hS; have hf := FA.out; go_simp; (try (with_reducible rfl)); done)); (try simp only [Act.put, List.setIfInBounds_toArray, List.set_cons_zero, List.set_cons_succ]))
      (refine takeD 7 (some 51) (v := ?_) rfl rfl (by kernel_rfl) (by kernel_rfl) (by kernel_rfl) (fun _ _ _ h => h) (by assumption) (Or.inl ⟨by rfl, ?_⟩) ?_; rotate_left; (focus (intro w' hS; skip; go_simp; (try (with_reducible rfl)); done)); (try simp only [Act.put, List.setIfInBounds_toArray, List.set_cons_zero, List.set_cons_succ]))
      (refine takeD 8 (some 52) (v := ?_) rfl rfl (by kernel_rfl) (by kernel_rfl) (by kernel_rfl) (fun _ _ _ h => h) (by assumption) (Or.inl ⟨by rfl, ?_⟩) ?_; rotate_left; (focus (intro w' hS; skip; go_simp; (try (with_reducible rfl)); done)); (try simp only [Act.put, List.setIfInBounds_toArray, List.set_cons_zero, List.set_cons_succ]))
      (refine takeD 9 (some 53) (v := ?_) rfl rfl (by kernel_rfl) (by kernel_rfl) (by kernel_rfl) (fun _ _ _ h => h) (by assumption) (Or.inl ⟨by rfl, ?_⟩) ?_; rotate_left; (focus (intro w' hS; skip; go_simp; (try (with_reducible rfl)); done)); (try simp only [Act.put, List.setIfInBounds_toArray, List.set_cons_zero, List.set_cons_succ]))
      (refine takeD 10 (some 54) (v := ?_) rfl rfl (by kernel_rfl) (by kernel_rfl) (by kernel_rfl) (fun _ _ _ h => h) (by assumption) (Or.inl ⟨by rfl, ?_⟩) ?_; rotate_left; (focus (intro w' hS; (have hc := CX.out _ hS 993; have hv := VX.out.2.2; rw [hv] at hc); go_simp; (try (with_reducible rfl)); done)); (try simp only [Act.put, List.setIfInBounds_toArray, List.set_cons_zero, List.set_cons_succ]))
      (refine takeD 11 (some 55) (v := ?_) rfl rfl (by kernel_rfl) (by kernel_rfl) (by kernel_rfl) (fun _ _ _ h => h) (by assumption) (Or.inl ⟨by rfl, ?_⟩) ?_; rotate_left; (focus (intro w' hS; skip; go_simp; (try (with_reducible rfl)); done)); (try simp only [Act.put, List.setIfInBounds_toArray, List.set_cons_zero, List.set_cons_succ]))
      (refine takeD 12 (some 56) (v := ?_) rfl rfl (by kernel_rfl) (by kernel_rfl) (by kernel_rfl) (fun _ _ _ h => h) (by assumption) (Or.inl ⟨by rfl, ?_⟩) ?_; rotate_left; (focus (intro w' hS; skip; go_simp; (try (with_reducible rfl)); done)); (try simp only [Act.put, List.setIfInBounds_toArray, List.set_cons_zero, List.set_cons_succ]))
      (refine takeD 13 (some 57) (v := ?_) rfl rfl (by kernel_rfl) (by kernel_rfl) (by kernel_rfl) (fun _ _ _ h => h) (by assumption) (Or.inl ⟨by rfl, ?_⟩) ?_; rotate_left; (focus (intro w' hS; (have hc := CX.out _ hS 1026; have hv := VX.out.2.1; rw [hv] at hc); go_simp; (try (with_reducible rfl)); done)); (try simp only [Act.put, List.setIfInBounds_toArray, List.set_cons_zero, List.set_cons_succ]))
      (refine takeD 14 (some 58) (v := ?_) rfl rfl (by kernel_rfl) (by kernel_rfl) (by kernel_rfl) (fun _ _ _ h => h) (by assumption) (Or.inl ⟨by rfl, ?_⟩) ?_; rotate_left; (focus (intro w' hS; have hf := FB.out; go_simp; (try (with_reducible rfl)); done)); (try simp only [Act.put, List.setIfInBounds_toArray, List.set_cons_zero, List.set_cons_succ]))
      (refine takeD 15 (some 59) (v := ?_) rfl rfl (by kernel_rfl) (by kernel_rfl) (by kernel_rfl) (fun _ _ _ h => h) (by assumption) (Or.inl ⟨by rfl, ?_⟩) ?_; rotate_left; (focus (intro w' hS; skip; go_simp; (try (with_reducible rfl)); done)); (try simp only [Act.put, List.setIfInBounds_toArray, List.set_cons_zero, List.set_cons_succ]))
      (refine takeD 16 (some 60) (v := ?_) rfl rfl (by kernel_rfl) (by kernel_rfl) (by kernel_rfl) (fun _ _ _ h => h) (by assumption) (Or.inl ⟨by rfl, ?_⟩) ?_; rotate_left; (focus (intro w' hS; skip; go_simp; (try (with_reducible rfl)); done)); (try simp only [Act.put, List.setIfInBounds_toArray, List.set_cons_zero, List.set_cons_succ]))
      (refine takeD 17 (some 61) (v := ?_) rfl rfl (by kernel_rfl) (by kernel_rfl) (by kernel_rfl) (fun _ _ _ h => h) (by assumption) (Or.inl ⟨by rfl, ?_⟩) ?_; rotate_left; (focus (intro w' hS; skip; go_simp; (try (with_reducible rfl)); done)); (try simp only [Act.put, List.setIfInBounds_toArray, List.set_cons_zero, List.set_cons_succ]))
      (refine takeD 18 (some 62) (v := ?_) rfl rfl (by kernel_rfl) (by kernel_rfl) (by kernel_rfl) (fun _ _ _ h => h) (by assumption) (Or.inl ⟨by rfl, ?_⟩) ?_; rotate_left; (focus (intro w' hS; skip; go_simp; (try (with_reducible rfl)); done)); (try simp only [Act.put, List.setIfInBounds_toArray, List.set_cons_zero, List.set_cons_succ]))
      (refine takeD 19 (some 63) (v := ?_) rfl rfl (by kernel_rfl) (by kernel_rfl) (by kernel_rfl) (fun _ _ _ h => h) (by assumption) (Or.inl ⟨by rfl, ?_⟩) ?_; rotate_left; (focus (intro w' hS; (have hc := CX.out _ hS 1026; have hv := VX.out.2.1; rw [hv] at hc); go_simp; (try (with_reducible rfl)); done)); (try simp only [Act.put, List.setIfInBounds_toArray, List.set_cons_zero, List.set_cons_succ]))
      (refine takeD 20 (some 64) (v := _) rfl rfl (by kernel_rfl) (by kernel_rfl) (by kernel_rfl) (fun _ _ _ h => h) (by assumption) (y_loadw 49 (by rfl) rfl rfl (KX.out) Try.underlying49 rfl szState hsz.out) ?_; (try simp only [Act.put, List.setIfInBounds_toArray, List.set_cons_zero, List.set_cons_succ]))
      (refine wpAnyH_ready (rs := [21]) (by kernel_rfl) (by simp) ?_; refine AllReadyH.cons (o := _) rfl (fun K hK => ?_) AllReadyH.nil)
      refine s_call (some 65) 21 (by rfl) rfl rfl Try.func21 (by kernel_rfl) rfl (vs := [.agg cs]) rfl (rbefore_any cs H.out.wf _) ?_
      rintro e wa ⟨rfl, hba⟩
      have sa : Below w4.heap.size w4 wa := (hrefl w4 _).trans hba
      refine ⟨_, rfl, ?_⟩
      refine hK.out _ _ sa (fun hHeld => ?_)
      (try simp only [Act.put, List.setIfInBounds_toArray, List.set_cons_zero, List.set_cons_succ])
      (refine takeD 22 (some 66) (v := ?_) rfl rfl (by kernel_rfl) (by kernel_rfl) (by kernel_rfl) (fun _ _ _ h => h) (by assumption) (Or.inl ⟨by rfl, ?_⟩) ?_; rotate_left; (focus (intro w' hS; have hf := FC.out; go_simp; (try (with_reducible rfl)); done)); (try simp only [Act.put, List.setIfInBounds_toArray, List.set_cons_zero, List.set_cons_succ]))
      (refine takeD 23 (some 67) (v := ?_) rfl rfl (by kernel_rfl) (by kernel_rfl) (by kernel_rfl) (fun _ _ _ h => h) (by assumption) (Or.inl ⟨by rfl, ?_⟩) ?_; rotate_left; (focus (intro w' hS; skip; go_simp; (try (with_reducible rfl)); done)); (try simp only [Act.put, List.setIfInBounds_toArray, List.set_cons_zero, List.set_cons_succ]))
      (refine takeD 24 (some 68) (v := ?_) rfl rfl (by kernel_rfl) (by kernel_rfl) (by kernel_rfl) (fun _ _ _ h => h) (by assumption) (Or.inl ⟨by rfl, ?_⟩) ?_; rotate_left; (focus (intro w' hS; skip; go_simp; (try (with_reducible rfl)); done)); (try simp only [Act.put, List.setIfInBounds_toArray, List.set_cons_zero, List.set_cons_succ]))
      (refine takeD 25 (some 69) (v := undef) rfl rfl (by kernel_rfl) (by kernel_rfl) (by kernel_rfl) (fun _ _ _ h => h) (by assumption) (Or.inr ⟨by rfl, rfl⟩) ?_; (try simp only [Act.put, List.setIfInBounds_toArray, List.set_cons_zero, List.set_cons_succ]))
      (refine takeD 26 (some 70) (v := undef) rfl rfl (by kernel_rfl) (by kernel_rfl) (by kernel_rfl) (fun _ _ _ h => h) (by assumption) (Or.inr ⟨by rfl, rfl⟩) ?_; (try simp only [Act.put, List.setIfInBounds_toArray, List.set_cons_zero, List.set_cons_succ]))
      (refine takeD 27 (some 71) (v := undef) rfl rfl (by kernel_rfl) (by kernel_rfl) (by kernel_rfl) (fun _ _ _ h => h) (by assumption) (Or.inr ⟨by rfl, rfl⟩) ?_; (try simp only [Act.put, List.setIfInBounds_toArray, List.set_cons_zero, List.set_cons_succ]))
      (refine takeD 28 (some 72) (v := undef) rfl rfl (by kernel_rfl) (by kernel_rfl) (by kernel_rfl) (fun _ _ _ h => h) (by assumption) (Or.inr ⟨by rfl, rfl⟩) ?_; (try simp only [Act.put, List.setIfInBounds_toArray, List.set_cons_zero, List.set_cons_succ]))
      (refine takeD 29 (some 73) (v := undef) rfl rfl (by kernel_rfl) (by kernel_rfl) (by kernel_rfl) (fun _ _ _ h => h) (by assumption) (Or.inr ⟨by rfl, rfl⟩) ?_; (try simp only [Act.put, List.setIfInBounds_toArray, List.set_cons_zero, List.set_cons_succ]))
      (refine takeD 30 (some 74) (v := undef) rfl rfl (by kernel_rfl) (by kernel_rfl) (by kernel_rfl) (fun _ _ _ h => h) (by assumption) (Or.inr ⟨by rfl, rfl⟩) ?_; (try simp only [Act.put, List.setIfInBounds_toArray, List.set_cons_zero, List.set_cons_succ]))
      (refine takeD 31 (some 75) (v := undef) rfl rfl (by kernel_rfl) (by kernel_rfl) (by kernel_rfl) (fun _ _ _ h => h) (by assumption) (Or.inr ⟨by rfl, rfl⟩) ?_; (try simp only [Act.put, List.setIfInBounds_toArray, List.set_cons_zero, List.set_cons_succ]))
      (refine takeD 32 (some 76) (v := ?_) rfl rfl (by kernel_rfl) (by kernel_rfl) (by kernel_rfl) (fun _ _ _ h => h) (by assumption) (Or.inl ⟨by rfl, ?_⟩) ?_; rotate_left; (focus (intro w' hS; skip; go_simp; (try (with_reducible rfl)); done)); (try simp only [Act.put, List.setIfInBounds_toArray, List.set_cons_zero, List.set_cons_succ]))
      refine wpAnyH_done (by kernel_rfl) ?_ _
      have hfin := Lib.hid sa
      clear hHeld hrefl
      go_wp2_with fail
      go_meet
      exact ⟨rfl, hfin⟩
    have FC := Lib.hid (decide_eq_true cC0)
    have FD : Hid (decide (cN p 1026 < cN p 1059) = false) := Lib.hid (decide_eq_false (by have := OP.out.num cA0 cB0 cC0; omega))
    case _ =>
      refine wp_region_held_drew (S := Below w4.heap.size w4) (by kernel_rfl) (hrefl _ _) (fun hHeld => ?_)
      (refine takeD 0 (some 44) (v := ?_) rfl rfl (by kernel_rfl) (by kernel_rfl) (by kernel_rfl) (fun _ _ _ h => h) (by assumption) (Or.inl ⟨by rfl, ?_⟩) ?_; rotate_left; (focus (intro w' hS; skip; go_simp; (try (with_reducible rfl)); done)); (try simp only [Act.put, List.setIfInBounds_toArray, List.set_cons_zero, List.set_cons_succ]))
      (refine takeD 1 (some 45) (v := ?_) rfl rfl (by kernel_rfl) (by kernel_rfl) (by kernel_rfl) (fun _ _ _ h => h) (by assumption) (Or.inl ⟨by rfl, ?_⟩) ?_; rotate_left; (focus (intro w' hS; skip; go_simp; (try (with_reducible rfl)); done)); (try simp only [Act.put, List.setIfInBounds_toArray, List.set_cons_zero, List.set_cons_succ]))
      (refine takeD 2 (some 46) (v := ?_) rfl rfl (by kernel_rfl) (by kernel_rfl) (by kernel_rfl) (fun _ _ _ h => h) (by assumption) (Or.inl ⟨by rfl, ?_⟩) ?_; rotate_left; (focus (intro w' hS; (have hc := CX.out _ hS 1059; have hv := VX.out.1; rw [hv] at hc); go_simp; (try (with_reducible rfl)); done)); (try simp only [Act.put, List.setIfInBounds_toArray, List.set_cons_zero, List.set_cons_succ]))
      (refine takeD 3 (some 47) (v := ?_) rfl rfl (by kernel_rfl) (by kernel_rfl) (by kernel_rfl) (fun _ _ _ h => h) (by assumption) (Or.inl ⟨by rfl, ?_⟩) ?_; rotate_left; (focus (intro w' hS; skip; go_simp; (try (with_reducible rfl)); done)); (try simp only [Act.put, List.setIfInBounds_toArray, List.set_cons_zero, List.set_cons_succ]))
      (refine takeD 4 (some 48) (v := ?_) rfl rfl (by kernel_rfl) (by kernel_rfl) (by kernel_rfl) (fun _ _ _ h => h) (by assumption) (Or.inl ⟨by rfl, ?_⟩) ?_; rotate_left; (focus (intro w' hS; skip; go_simp; (try (with_reducible rfl)); done)); (try simp only [Act.put, List.setIfInBounds_toArray, List.set_cons_zero, List.set_cons_succ]))
      (refine takeD 5 (some 49) (v := ?_) rfl rfl (by kernel_rfl) (by kernel_rfl) (by kernel_rfl) (fun _ _ _ h => h) (by assumption) (Or.inl ⟨by rfl, ?_⟩) ?_; rotate_left; (focus (intro w' hS; (have hc := CX.out _ hS 1026; have hv := VX.out.2.1; rw [hv] at hc); go_simp; (try (with_reducible rfl)); done)); (try simp only [Act.put, List.setIfInBounds_toArray, List.set_cons_zero, List.set_cons_succ]))
      (refine takeD 6 (some 50) (v := ?_) rfl rfl (by kernel_rfl) (by kernel_rfl) (by kernel_rfl) (fun _ _ _ h => h) (by assumption) (Or.inl ⟨by rfl, ?_⟩) ?_; rotate_left; (focus (intro w' hS; have hf := FA.out; go_simp; (try (with_reducible rfl)); done)); (try simp only [Act.put, List.setIfInBounds_toArray, List.set_cons_zero, List.set_cons_succ]))
      (refine takeD 7 (some 51) (v := ?_) rfl rfl (by kernel_rfl) (by kernel_rfl) (by kernel_rfl) (fun _ _ _ h => h) (by assumption) (Or.inl ⟨by rfl, ?_⟩) ?_; rotate_left; (focus (intro w' hS; skip; go_simp; (try (with_reducible rfl)); done)); (try simp only [Act.put, List.setIfInBounds_toArray, List.set_cons_zero, List.set_cons_succ]))
      (refine takeD 8 (some 52) (v := ?_) rfl rfl (by kernel_rfl) (by kernel_rfl) (by kernel_rfl) (fun _ _ _ h => h) (by assumption) (Or.inl ⟨by rfl, ?_⟩) ?_; rotate_left; (focus (intro w' hS; skip; go_simp; (try (with_reducible rfl)); done)); (try simp only [Act.put, List.setIfInBounds_toArray, List.set_cons_zero, List.set_cons_succ]))
      (refine takeD 9 (some 53) (v := ?_) rfl rfl (by kernel_rfl) (by kernel_rfl) (by kernel_rfl) (fun _ _ _ h => h) (by assumption) (Or.inl ⟨by rfl, ?_⟩) ?_; rotate_left; (focus (intro w' hS; skip; go_simp; (try (with_reducible rfl)); done)); (try simp only [Act.put, List.setIfInBounds_toArray, List.set_cons_zero, List.set_cons_succ]))
      (refine takeD 10 (some 54) (v := ?_) rfl rfl (by kernel_rfl) (by kernel_rfl) (by kernel_rfl) (fun _ _ _ h => h) (by assumption) (Or.inl ⟨by rfl, ?_⟩) ?_; rotate_left; (focus (intro w' hS; (have hc := CX.out _ hS 993; have hv := VX.out.2.2; rw [hv] at hc); go_simp; (try (with_reducible rfl)); done)); (try simp only [Act.put, List.setIfInBounds_toArray, List.set_cons_zero, List.set_cons_succ]))
      (refine takeD 11 (some 55) (v := ?_) rfl rfl (by kernel_rfl) (by kernel_rfl) (by kernel_rfl) (fun _ _ _ h => h) (by assumption) (Or.inl ⟨by rfl, ?_⟩) ?_; rotate_left; (focus (intro w' hS; skip; go_simp; (try (with_reducible rfl)); done)); (try simp only [Act.put, List.setIfInBounds_toArray, List.set_cons_zero, List.set_cons_succ]))
      (refine takeD 12 (some 56) (v := ?_) rfl rfl (by kernel_rfl) (by kernel_rfl) (by kernel_rfl) (fun _ _ _ h => h) (by assumption) (Or.inl ⟨by rfl, ?_⟩) ?_; rotate_left; (focus (intro w' hS; skip; go_simp; (try (with_reducible rfl)); done)); (try simp only [Act.put, List.setIfInBounds_toArray, List.set_cons_zero, List.set_cons_succ]))
      (refine takeD 13 (some 57) (v := ?_) rfl rfl (by kernel_rfl) (by kernel_rfl) (by kernel_rfl) (fun _ _ _ h => h) (by assumption) (Or.inl ⟨by rfl, ?_⟩) ?_; rotate_left; (focus (intro w' hS; (have hc := CX.out _ hS 1026; have hv := VX.out.2.1; rw [hv] at hc); go_simp; (try (with_reducible rfl)); done)); (try simp only [Act.put, List.setIfInBounds_toArray, List.set_cons_zero, List.set_cons_succ]))
      (refine takeD 14 (some 58) (v := ?_) rfl rfl (by kernel_rfl) (by kernel_rfl) (by kernel_rfl) (fun _ _ _ h => h) (by assumption) (Or.inl ⟨by rfl, ?_⟩) ?_; rotate_left; (focus (intro w' hS; have hf := FB.out; go_simp; (try (with_reducible rfl)); done)); (try simp only [Act.put, List.setIfInBounds_toArray, List.set_cons_zero, List.set_cons_succ]))
      (refine takeD 15 (some 59) (v := ?_) rfl rfl (by kernel_rfl) (by kernel_rfl) (by kernel_rfl) (fun _ _ _ h => h) (by assumption) (Or.inl ⟨by rfl, ?_⟩) ?_; rotate_left; (focus (intro w' hS; skip; go_simp; (try (with_reducible rfl)); done)); (try simp only [Act.put, List.setIfInBounds_toArray, List.set_cons_zero, List.set_cons_succ]))
      (refine takeD 16 (some 60) (v := ?_) rfl rfl (by kernel_rfl) (by kernel_rfl) (by kernel_rfl) (fun _ _ _ h => h) (by assumption) (Or.inl ⟨by rfl, ?_⟩) ?_; rotate_left; (focus (intro w' hS; skip; go_simp; (try (with_reducible rfl)); done)); (try simp only [Act.put, List.setIfInBounds_toArray, List.set_cons_zero, List.set_cons_succ]))
      (refine takeD 17 (some 61) (v := ?_) rfl rfl (by kernel_rfl) (by kernel_rfl) (by kernel_rfl) (fun _ _ _ h => h) (by assumption) (Or.inl ⟨by rfl, ?_⟩) ?_; rotate_left; (focus (intro w' hS; skip; go_simp; (try (with_reducible rfl)); done)); (try simp only [Act.put, List.setIfInBounds_toArray, List.set_cons_zero, List.set_cons_succ]))
      (refine takeD 18 (some 62) (v := ?_) rfl rfl (by kernel_rfl) (by kernel_rfl) (by kernel_rfl) (fun _ _ _ h => h) (by assumption) (Or.inl ⟨by rfl, ?_⟩) ?_; rotate_left; (focus (intro w' hS; skip; go_simp; (try (with_reducible rfl)); done)); (try simp only [Act.put, List.setIfInBounds_toArray, List.set_cons_zero, List.set_cons_succ]))
      (refine takeD 19 (some 63) (v := ?_) rfl rfl (by kernel_rfl) (by kernel_rfl) (by kernel_rfl) (fun _ _ _ h => h) (by assumption) (Or.inl ⟨by rfl, ?_⟩) ?_; rotate_left; (focus (intro w' hS; (have hc := CX.out _ hS 1026; have hv := VX.out.2.1; rw [hv] at hc); go_simp; (try (with_reducible rfl)); done)); (try simp only [Act.put, List.setIfInBounds_toArray, List.set_cons_zero, List.set_cons_succ]))
      (refine takeD 20 (some 64) (v := _) rfl rfl (by kernel_rfl) (by kernel_rfl) (by kernel_rfl) (fun _ _ _ h => h) (by assumption) (y_loadw 49 (by rfl) rfl rfl (KX.out) Try.underlying49 rfl szState hsz.out) ?_; (try simp only [Act.put, List.setIfInBounds_toArray, List.set_cons_zero, List.set_cons_succ]))
      (refine wpAnyH_ready (rs := [21]) (by kernel_rfl) (by simp) ?_; refine AllReadyH.cons (o := _) rfl (fun K hK => ?_) AllReadyH.nil)
      refine s_call (some 65) 21 (by rfl) rfl rfl Try.func21 (by kernel_rfl) rfl (vs := [.agg cs]) rfl (rbefore_any cs H.out.wf _) ?_
      rintro e wa ⟨rfl, hba⟩
      have sa : Below w4.heap.size w4 wa := (hrefl w4 _).trans hba
      refine ⟨_, rfl, ?_⟩
      refine hK.out _ _ sa (fun hHeld => ?_)
      (try simp only [Act.put, List.setIfInBounds_toArray, List.set_cons_zero, List.set_cons_succ])
      (refine takeD 22 (some 66) (v := ?_) rfl rfl (by kernel_rfl) (by kernel_rfl) (by kernel_rfl) (fun _ _ _ h => h) (by assumption) (Or.inl ⟨by rfl, ?_⟩) ?_; rotate_left; (focus (intro w' hS; have hf := FC.out; go_simp; (try (with_reducible rfl)); done)); (try simp only [Act.put, List.setIfInBounds_toArray, List.set_cons_zero, List.set_cons_succ]))
      (refine takeD 23 (some 67) (v := ?_) rfl rfl (by kernel_rfl) (by kernel_rfl) (by kernel_rfl) (fun _ _ _ h => h) (by assumption) (Or.inl ⟨by rfl, ?_⟩) ?_; rotate_left; (focus (intro w' hS; skip; go_simp; (try (with_reducible rfl)); done)); (try simp only [Act.put, List.setIfInBounds_toArray, List.set_cons_zero, List.set_cons_succ]))
      (refine takeD 24 (some 68) (v := ?_) rfl rfl (by kernel_rfl) (by kernel_rfl) (by kernel_rfl) (fun _ _ _ h => h) (by assumption) (Or.inl ⟨by rfl, ?_⟩) ?_; rotate_left; (focus (intro w' hS; skip; go_simp; (try (with_reducible rfl)); done)); (try simp only [Act.put, List.setIfInBounds_toArray, List.set_cons_zero, List.set_cons_succ]))
      (refine takeD 25 (some 69) (v := ?_) rfl rfl (by kernel_rfl) (by kernel_rfl) (by kernel_rfl) (fun _ _ _ h => h) (by assumption) (Or.inl ⟨by rfl, ?_⟩) ?_; rotate_left; (focus (intro w' hS; skip; go_simp; (try (with_reducible rfl)); done)); (try simp only [Act.put, List.setIfInBounds_toArray, List.set_cons_zero, List.set_cons_succ]))
      (refine takeD 26 (some 70) (v := ?_) rfl rfl (by kernel_rfl) (by kernel_rfl) (by kernel_rfl) (fun _ _ _ h => h) (by assumption) (Or.inl ⟨by rfl, ?_⟩) ?_; rotate_left; (focus (intro w' hS; skip; go_simp; (try (with_reducible rfl)); done)); (try simp only [Act.put, List.setIfInBounds_toArray, List.set_cons_zero, List.set_cons_succ]))
      (refine takeD 27 (some 71) (v := ?_) rfl rfl (by kernel_rfl) (by kernel_rfl) (by kernel_rfl) (fun _ _ _ h => h) (by assumption) (Or.inl ⟨by rfl, ?_⟩) ?_; rotate_left; (focus (intro w' hS; (have hc := CY.out _ hS 1059; have hv := VY.out.1; rw [hv] at hc); go_simp; (try (with_reducible rfl)); done)); (try simp only [Act.put, List.setIfInBounds_toArray, List.set_cons_zero, List.set_cons_succ]))
      (refine takeD 28 (some 72) (v := ?_) rfl rfl (by kernel_rfl) (by kernel_rfl) (by kernel_rfl) (fun _ _ _ h => h) (by assumption) (Or.inl ⟨by rfl, ?_⟩) ?_; rotate_left; (focus (intro w' hS; skip; go_simp; (try (with_reducible rfl)); done)); (try simp only [Act.put, List.setIfInBounds_toArray, List.set_cons_zero, List.set_cons_succ]))
      (refine takeD 29 (some 73) (v := ?_) rfl rfl (by kernel_rfl) (by kernel_rfl) (by kernel_rfl) (fun _ _ _ h => h) (by assumption) (Or.inl ⟨by rfl, ?_⟩) ?_; rotate_left; (focus (intro w' hS; skip; go_simp; (try (with_reducible rfl)); done)); (try simp only [Act.put, List.setIfInBounds_toArray, List.set_cons_zero, List.set_cons_succ]))
      (refine takeD 30 (some 74) (v := ?_) rfl rfl (by kernel_rfl) (by kernel_rfl) (by kernel_rfl) (fun _ _ _ h => h) (by assumption) (Or.inl ⟨by rfl, ?_⟩) ?_; rotate_left; (focus (intro w' hS; (have hc := CY.out _ hS 1026; have hv := VY.out.2.1; rw [hv] at hc); go_simp; (try (with_reducible rfl)); done)); (try simp only [Act.put, List.setIfInBounds_toArray, List.set_cons_zero, List.set_cons_succ]))
      (refine takeD 31 (some 75) (v := ?_) rfl rfl (by kernel_rfl) (by kernel_rfl) (by kernel_rfl) (fun _ _ _ h => h) (by assumption) (Or.inl ⟨by rfl, ?_⟩) ?_; rotate_left; (focus (intro w' hS; have hf := FD.out; go_simp; (try (with_reducible rfl)); done)); (try simp only [Act.put, List.setIfInBounds_toArray, List.set_cons_zero, List.set_cons_succ]))
      (refine takeD 32 (some 76) (v := ?_) rfl rfl (by kernel_rfl) (by kernel_rfl) (by kernel_rfl) (fun _ _ _ h => h) (by assumption) (Or.inl ⟨by rfl, ?_⟩) ?_; rotate_left; (focus (intro w' hS; skip; go_simp; (try (with_reducible rfl)); done)); (try simp only [Act.put, List.setIfInBounds_toArray, List.set_cons_zero, List.set_cons_succ]))
      refine wpAnyH_done (by kernel_rfl) ?_ _
      have hfin := Lib.hid sa
      clear hHeld hrefl
      go_wp2_with fail
      go_meet
      exact ⟨rfl, hfin⟩
  case rest =>
  rename World => w5
  obtain ⟨rfl, h5⟩ := hcut
  go_upto_region 11 with fail
  have hrefl := HREF.out
  have hg5 := h5.out.size
  have S5 : Hid (∀ w', Below w5.heap.size w5 w' → Below w4.heap.size w4 w') := Lib.hid fun w' hb => h5.out.trans (hb.mono hg5)
  have KX5 : ∀ w', Below w5.heap.size w5 w' → Blk w' w.heap.size 49 cs := fun w' hb => KX.out _ (S5.out _ hb)
  -- region 11
  refine wp_region_held_drew (S := Below w5.heap.size w5) (by kernel_rfl) (hrefl _ _) (fun hHeld => ?_)
  (refine takeD 0 (some 78) (v := _) rfl rfl (by kernel_rfl) (by kernel_rfl) (by kernel_rfl) (fun _ _ _ h => h) (by assumption) (y_loadw 49 (by rfl) rfl rfl KX5 Try.underlying49 rfl szState hsz.out) ?_; (try simp only [Act.put, List.setIfInBounds_toArray, List.set_cons_zero, List.set_cons_succ]))
  (refine takeD 1 (some 79) (v := _) rfl rfl (by kernel_rfl) (by kernel_rfl) (by kernel_rfl) (fun _ _ _ h => h) (by assumption) (y_loadw 49 (by rfl) rfl rfl KX5 Try.underlying49 rfl szState hsz.out) ?_; (try simp only [Act.put, List.setIfInBounds_toArray, List.set_cons_zero, List.set_cons_succ]))
  (refine wpAnyH_ready (rs := [2]) (by kernel_rfl) (by simp) ?_; refine AllReadyH.cons (o := _) rfl (fun K hK => ?_) AllReadyH.nil)
  refine s_call (some 80) 21 (by rfl) rfl rfl Try.func21 (by kernel_rfl) rfl (vs := [.agg cs]) rfl (rbefore_any cs H.out.wf _) ?_
  rintro e wa ⟨rfl, hba⟩
  have sa : Below w5.heap.size w5 wa := (hrefl w5 _).trans hba
  refine ⟨_, rfl, ?_⟩
  refine hK.out _ _ sa (fun hHeld => ?_)
  (try simp only [Act.put, List.setIfInBounds_toArray, List.set_cons_zero, List.set_cons_succ])
  (refine wpAnyH_ready (rs := [3]) (by kernel_rfl) (by simp) ?_; refine AllReadyH.cons (o := _) rfl (fun K hK => ?_) AllReadyH.nil)
  refine s_call (some 81) 16 (by rfl) rfl rfl Try.func16 (by kernel_rfl) rfl (vs := [.agg cs, .int .i64 1, .int .u64 (subz (cN cs 33 / 4) 1)]) rfl
    (uns_any cs L w.heap.size _ (by have := (S5.out _ sa).size; omega) (DW.out _ (S5.out _ sa)).2.1 Rp.out 1 (by decide) (subz (cN cs 33 / 4) 1) HW1.out (.inr rfl)) ?_
  rintro e wb ⟨v, rfl, hown, hbb⟩
  rw [HU1.out] at hown
  obtain ⟨a1, c1, rfl⟩ := own_form hown
  have S1 := Lib.hid (SlR.own (bytes := 8) hown (by omega))
  have sb : Below w5.heap.size w5 wb := sa.trans (hbb.mono sa.size)
  have SB := Lib.hid (S5.out _ sb)
  have hgb := sb.size
  refine ⟨_, rfl, ?_⟩
  refine hK.out _ _ sb (fun hHeld => ?_)
  (try simp only [Act.put, List.setIfInBounds_toArray, List.set_cons_zero, List.set_cons_succ])
  (refine takeD 4 (some 77) (v := ?_) rfl rfl (by kernel_rfl) (by kernel_rfl) (by kernel_rfl) (fun _ _ _ h => h) (by assumption) (Or.inl ⟨by rfl, ?_⟩) ?_; rotate_left; (focus (intro w' hS; skip; go_simp; (try (with_reducible rfl)); done)); (try simp only [Act.put, List.setIfInBounds_toArray, List.set_cons_zero, List.set_cons_succ]))
  (refine takeD 5 (some 82) (v := ?_) rfl rfl (by kernel_rfl) (by kernel_rfl) (by kernel_rfl) (fun _ _ _ h => h) (by assumption) (Or.inl ⟨by rfl, ?_⟩) ?_; rotate_left; (focus (intro w' hS; skip; go_simp; (try (with_reducible rfl)); done)); (try simp only [Act.put, List.setIfInBounds_toArray, List.set_cons_zero, List.set_cons_succ]))
  (refine takeD 6 (some 83) (v := ?_) rfl rfl (by kernel_rfl) (by kernel_rfl) (by kernel_rfl) (fun _ _ _ h => h) (by assumption) (Or.inl ⟨by rfl, ?_⟩) ?_; rotate_left; (focus (intro w' hS; skip; go_simp; (try (with_reducible rfl)); done)); (try simp only [Act.put, List.setIfInBounds_toArray, List.set_cons_zero, List.set_cons_succ]))
  (refine takeD 7 (some 6) (v := ?_) rfl rfl (by kernel_rfl) (by kernel_rfl) (by kernel_rfl) (fun _ _ _ h => h) (by assumption) (Or.inl ⟨by rfl, ?_⟩) ?_; rotate_left; (focus (intro w' hS; skip; go_simp; (try (with_reducible rfl)); done)); (try simp only [Act.put, List.setIfInBounds_toArray, List.set_cons_zero, List.set_cons_succ]))
  (refine takeD 8 (some 7) (v := ?_) rfl rfl (by kernel_rfl) (by kernel_rfl) (by kernel_rfl) (fun _ _ _ h => h) (by assumption) (Or.inl ⟨by rfl, ?_⟩) ?_; rotate_left; (focus (intro w' hS; skip; go_simp; (try (with_reducible rfl)); done)); (try simp only [Act.put, List.setIfInBounds_toArray, List.set_cons_zero, List.set_cons_succ]))
  refine wpAnyH_done (by kernel_rfl) ?_ _
  clear hHeld sa sb hown hba hbb KX5 hrefl
  have hkb := KX.out _ SB.out
  go_upto_region 13 with (first
    | ((with_reducible apply l_loadw 49); (focus rfl); (focus (repeat (first | assumption | (apply Blk.newAt; (focus (simp; done))) | apply Blk.alloc | apply Blk.setRow | apply Blk.drewN | apply Blk.drew | (refine Blk.setRow_other ?_ ?_ _; focus (first | omega | (simp; omega)))))); (focus exact Try.underlying49); (focus rfl); (focus exact szState); (focus (first | exact omega | (first | omega | (simp; done) | (simp; omega) | assumption))); (try go_frame))
    | (go_at_call 16; refine (uns_any cs L w.heap.size _ (by have := SB.out.size; omega) (DW.out _ SB.out).2.1 Rp.out 1 (by decide) (cN cs 33 / 4) HW.out (.inl rfl)).mono ?_
       rintro e wc ⟨v, rfl, hown, hbc⟩
       rw [HU2.out] at hown
       obtain ⟨a2, c2, rfl⟩ := own_form hown
       have S2 := Lib.hid (SlR.own (bytes := 8) hown (by omega))
       have S1' := Lib.hid ((S1.out.below hbc).more hbc.size)
       have SC := Lib.hid (SB.out.trans (hbc.mono (by have := SB.out.size; omega)))
       have hgc := SC.out.size
       clear hown hbc hkb))
  have hkc := KX.out _ SC.out
  go_upto_region 14 with (first
    | ((with_reducible apply l_loadw 49); (focus rfl); (focus (repeat (first | assumption | (apply Blk.newAt; (focus (simp; done))) | apply Blk.alloc | apply Blk.setRow | apply Blk.drewN | apply Blk.drew | (refine Blk.setRow_other ?_ ?_ _; focus (first | omega | (simp; omega)))))); (focus exact Try.underlying49); (focus rfl); (focus exact szState); (focus (first | exact omega | (first | omega | (simp; done) | (simp; omega) | assumption))); (try go_frame))
    | (go_at_call 22; refine (rall_any cs L w.heap.size _ (by omega) (DW.out _ SC.out).2.1 Rp.out).mono ?_
       rintro e wd ⟨rfl, hbd⟩
       have T1 := Lib.hid ((S1'.out.below hbd).more hbd.size)
       have T2 := Lib.hid ((S2.out.below hbd).more hbd.size)
       have SD := Lib.hid (SC.out.trans (hbd.mono (by omega)))
       have hgd := SD.out.size
       clear hbd hkc))
  obtain ⟨all, hall⟩ : ∃ a, a = allOf cs L := ⟨_, rfl⟩
  have HAL := Lib.hid hall
  rw [← hall] at hmAa hmAb
  rw [← hall]
  clear hall
  obtain ⟨ep, hep⟩ : ∃ ep, ep = cN cs 33 / 4 := ⟨_, rfl⟩
  have HEP := Lib.hid hep
  rw [← hep]
  clear hep
  have hwd : w.heap.size ≤ wd.heap.size := by have := SD.out.size; omega
  have TA : Hid (Calls Try.prog 23 #[.agg cs, .slice a1 U1.length c1] wd fun e w' => e = .returned (.int .u64 t1) ∧ Below wd.heap.size wd w') := Lib.hid (by
    refine (rtotal_any cs L w.heap.size wd hwd (DW.out wd SD.out).2.1 Rp.out U1 HM1.out hlen1 a1 c1 wd.heap.size (Nat.le_refl _) T1.out).mono ?_
    rintro e w' ⟨rfl, hb⟩
    rw [E1.out]
    exact ⟨rfl, hb⟩)
  have TB : Hid (∀ we, Below wd.heap.size wd we → Calls Try.prog 23 #[.agg cs, .slice a2 U2.length c2] we fun e w' => e = .returned (.int .u64 t2) ∧ Below we.heap.size we w') := Lib.hid (by
    intro we hwe
    have hwe2 : w.heap.size ≤ we.heap.size := Nat.le_trans hwd hwe.size
    refine (rtotal_any cs L w.heap.size we hwe2 (DW.out we (SD.out.trans (hwe.mono SD.out.size))).2.1 Rp.out U2 HM2.out hlen2 a2 c2 wd.heap.size hwe.size (T2.out.below hwe)).mono ?_
    rintro e w' ⟨rfl, hb⟩
    rw [E2.out]
    exact ⟨rfl, hb⟩)
  have hgd2 := SD.out.size
  go_cut [123] (fun t wq => t = .bool false ∧ Hid (Below w4.heap.size w4 wq))
  case first =>
    have hkd := KX.out _ SD.out
    have hyd := KY.out _ SD.out
    by_cases d0 : 1 < ep
    case neg =>
      have f0 : decide (1 < ep) = false := decide_eq_false d0
      go_upto_region 15 with fail
      go_meet
      exact ⟨rfl, SD⟩
    have f0 : decide (1 < ep) = true := decide_eq_true d0
    by_cases d1 : 3 * t1 < 2 * all
    case neg =>
      have f1 : decide (3 * t1 < 2 * all) = false := decide_eq_false d1
      go_upto_region 15 with (first | ((with_reducible apply o_loadw 49); (focus rfl); (focus (repeat (first | assumption | (apply Blk.newAt; (focus (simp; done))) | apply Blk.alloc | apply Blk.setRow | apply Blk.drewN | apply Blk.drew | (refine Blk.setRow_other ?_ ?_ _; focus (first | omega | (simp; omega)))))); (focus exact Try.underlying49); (focus rfl); (focus exact szState); (focus (first | omega | (simp; done) | (simp; omega) | assumption)); (try simp only [Act.put, List.setIfInBounds_toArray, List.set_cons_zero, List.set_cons_succ])) | fail)
      refine TA.out.mono ?_
      rintro e we ⟨rfl, hbe⟩
      have SE := Lib.hid (SD.out.trans (hbe.mono hgd2))
      have hbe2 := Lib.hid hbe
      have hge := SE.out.size
      clear hbe hkd hyd
      go_upto_region 15 with fail
      go_meet
      exact ⟨rfl, SE⟩
    have f1 : decide (3 * t1 < 2 * all) = true := decide_eq_true d1
    by_cases d2 : 3 * t2 < 2 * all
    case neg =>
      have f2 : decide (3 * t2 < 2 * all) = false := decide_eq_false d2
      go_upto_region 15 with (first | ((with_reducible apply o_loadw 49); (focus rfl); (focus (repeat (first | assumption | (apply Blk.newAt; (focus (simp; done))) | apply Blk.alloc | apply Blk.setRow | apply Blk.drewN | apply Blk.drew | (refine Blk.setRow_other ?_ ?_ _; focus (first | omega | (simp; omega)))))); (focus exact Try.underlying49); (focus rfl); (focus exact szState); (focus (first | omega | (simp; done) | (simp; omega) | assumption)); (try simp only [Act.put, List.setIfInBounds_toArray, List.set_cons_zero, List.set_cons_succ])) | fail)
      refine TA.out.mono ?_
      rintro e we ⟨rfl, hbe⟩
      have SE := Lib.hid (SD.out.trans (hbe.mono hgd2))
      have hbe2 := Lib.hid hbe
      have hge := SE.out.size
      clear hbe hkd hyd
      have hke := KX.out _ SE.out
      go_upto_region 15 with (first | ((with_reducible apply o_loadw 49); (focus rfl); (focus (repeat (first | assumption | (apply Blk.newAt; (focus (simp; done))) | apply Blk.alloc | apply Blk.setRow | apply Blk.drewN | apply Blk.drew | (refine Blk.setRow_other ?_ ?_ _; focus (first | omega | (simp; omega)))))); (focus exact Try.underlying49); (focus rfl); (focus exact szState); (focus (first | omega | (simp; done) | (simp; omega) | assumption)); (try simp only [Act.put, List.setIfInBounds_toArray, List.set_cons_zero, List.set_cons_succ])) | fail)
      refine (TB.out _ hbe2.out).mono ?_
      rintro e wf ⟨rfl, hbf⟩
      have SF := Lib.hid (SE.out.trans (hbf.mono hge))
      clear hbf hke
      go_upto_region 15 with fail
      go_meet
      exact ⟨rfl, SF⟩
    have f2 : decide (3 * t2 < 2 * all) = true := decide_eq_true d2
    have hless := OP.out.less (by rw [← HEP.out]; exact d0) (by rw [← HAL.out, ← HT1.out (by rw [← HEP.out]; exact d0)]; exact d1) (by rw [← HAL.out, ← HT2.out]; exact d2)
    obtain rfl : r4 = true := ER4.out hless.1
    have hbit : p[989]? = some (.bool false) := by rw [VY.out.2.2, hless.2]
    have HBT := Lib.hid hbit
    clear hless hbit
    case _ =>
      go_upto_region 15 with (first | ((with_reducible apply o_loadw 49); (focus rfl); (focus (repeat (first | assumption | (apply Blk.newAt; (focus (simp; done))) | apply Blk.alloc | apply Blk.setRow | apply Blk.drewN | apply Blk.drew | (refine Blk.setRow_other ?_ ?_ _; focus (first | omega | (simp; omega)))))); (focus exact Try.underlying49); (focus rfl); (focus exact szState); (focus (first | omega | (simp; done) | (simp; omega) | assumption)); (try simp only [Act.put, List.setIfInBounds_toArray, List.set_cons_zero, List.set_cons_succ])) | fail)
      refine TA.out.mono ?_
      rintro e we ⟨rfl, hbe⟩
      have SE := Lib.hid (SD.out.trans (hbe.mono hgd2))
      have hbe2 := Lib.hid hbe
      have hge := SE.out.size
      clear hbe hkd hyd
      have hke := KX.out _ SE.out
      go_upto_region 15 with (first | ((with_reducible apply o_loadw 49); (focus rfl); (focus (repeat (first | assumption | (apply Blk.newAt; (focus (simp; done))) | apply Blk.alloc | apply Blk.setRow | apply Blk.drewN | apply Blk.drew | (refine Blk.setRow_other ?_ ?_ _; focus (first | omega | (simp; omega)))))); (focus exact Try.underlying49); (focus rfl); (focus exact szState); (focus (first | omega | (simp; done) | (simp; omega) | assumption)); (try simp only [Act.put, List.setIfInBounds_toArray, List.set_cons_zero, List.set_cons_succ])) | fail)
      refine (TB.out _ hbe2.out).mono ?_
      rintro e wf ⟨rfl, hbf⟩
      have SF := Lib.hid (SE.out.trans (hbf.mono hge))
      clear hbf hke
      have hkf := KX.out _ SF.out
      have hyf := KY.out _ SF.out
      have hcell := hyf.cell
      have hbit := HBT.out
      go_upto_region 15 with (first | ((with_reducible apply o_load 42); (focus rfl); (focus (repeat (first | assumption | (apply Blk.newAt; (focus (simp; done))) | apply Blk.alloc | apply Blk.setRow | apply Blk.drewN | apply Blk.drew | (refine Blk.setRow_other ?_ ?_ _; focus (first | omega | (simp; omega)))))); (focus exact Try.underlying42); (focus rfl); (focus exact szCheck); (focus (first | omega | (simp; done) | (simp; omega) | assumption)); (try simp only [Act.put, List.setIfInBounds_toArray, List.set_cons_zero, List.set_cons_succ])) | ((with_reducible apply o_neq 42); (focus rfl); (focus rfl); (focus exact eqg_chk); (focus exact R4.out _); (try simp only [Act.put, List.setIfInBounds_toArray, List.set_cons_zero, List.set_cons_succ])) | fail)
      go_meet
      exact ⟨rfl, SF⟩
  case rest =>
  rename World => w6
  obtain ⟨rfl, h6⟩ := hcut
  go_upto_region 16 with fail
  have hk6 := KX.out _ h6.out
  have hy6 := KY.out _ h6.out
  have hg6 := h6.out.size
  have ze : (cs.extract 993 (993 + 33)).size = 33 := by simp; omega
  have zf : (cs.extract 1026 (1026 + 33)).size = 33 := by simp; omega
  have zg : (cs.extract 1059 (1059 + 33)).size = 33 := by simp; omega
  have zh : (cs.extract 989 (989 + 4)).size = 4 := by simp; omega
  have ZZ := Lib.hid (And.intro ze (And.intro zf (And.intro zg zh)))
  clear ze zf zg zh
  go_upto_region 17 with (first
    | ((with_reducible apply l_load 42); (focus rfl); (focus (repeat (first | assumption | (apply Blk.newAt; (focus (simp; done))) | apply Blk.alloc | apply Blk.setRow | apply Blk.drewN | apply Blk.drew | (refine Blk.setRow_other ?_ ?_ _; focus (first | omega | (simp; omega)))))); (focus exact Try.underlying42); (focus rfl); (focus exact szCheck); (focus (first | omega | (simp; done) | (simp; omega) | assumption)); (try go_frame))
    | ((with_reducible apply l_store 42); (focus rfl); (focus rfl); (focus (repeat (first | assumption | (apply Blk.newAt; (focus (simp; done))) | apply Blk.alloc | apply Blk.setRow | apply Blk.drewN | apply Blk.drew | (refine Blk.setRow_other ?_ ?_ _; focus (first | omega | (simp; omega)))))); (focus exact szCheck); (focus (first | exact (ZZ.out.1) | (first | omega | (simp; done) | (simp; omega) | assumption))); (focus (first | omega | (simp; done) | (simp; omega) | assumption)); (focus exact (ones_extract Hone.out _ _)); (focus (repeat (first | (apply setRow_eq_at; (focus (simp; done))) | (refine setRow_eq_past ?_ ?_; (focus (first | (simp; done) | omega | (simp; omega)))) | apply setRow_eq_drewN | apply setRow_eq_drew | rfl))); (try go_frame)))
  obtain ⟨p1, hc0⟩ : ∃ c, c = patch p 993 (cs.extract 993 (993 + 33)) := ⟨_, rfl⟩
  rw [← hc0]
  obtain ⟨w7, hw0⟩ : ∃ x : World, x = w6.setRow gy p1 := ⟨_, rfl⟩
  have hkw7 : Blk w7 w.heap.size 49 cs := by rw [hw0]; exact hk6.setRow_other (by omega) _
  have hyw7 : Blk w7 gy 49 p1 := by rw [hw0]; exact hy6.setRow _
  have hzp1 : 1957 ≤ p1.size ∧ p1.size ≤ 1957 := by rw [hc0, size_patch (by rw [ZZ.out.1]; omega)]; omega
  obtain ⟨hzp1a, hzp1b⟩ := hzp1
  have HW0 := Lib.hid hw0; have HC0 := Lib.hid hc0
  rw [← hw0]
  clear hw0 hc0 hk6 hy6
  go_upto_region 18 with (first
    | ((with_reducible apply l_load 42); (focus rfl); (focus (repeat (first | assumption | (apply Blk.newAt; (focus (simp; done))) | apply Blk.alloc | apply Blk.setRow | apply Blk.drewN | apply Blk.drew | (refine Blk.setRow_other ?_ ?_ _; focus (first | omega | (simp; omega)))))); (focus exact Try.underlying42); (focus rfl); (focus exact szCheck); (focus (first | omega | (simp; done) | (simp; omega) | assumption)); (try go_frame))
    | ((with_reducible apply l_store 42); (focus rfl); (focus rfl); (focus (repeat (first | assumption | (apply Blk.newAt; (focus (simp; done))) | apply Blk.alloc | apply Blk.setRow | apply Blk.drewN | apply Blk.drew | (refine Blk.setRow_other ?_ ?_ _; focus (first | omega | (simp; omega)))))); (focus exact szCheck); (focus (first | exact (ZZ.out.2.1) | (first | omega | (simp; done) | (simp; omega) | assumption))); (focus (first | omega | (simp; done) | (simp; omega) | assumption)); (focus exact (ones_extract Hone.out _ _)); (focus (repeat (first | (apply setRow_eq_at; (focus (simp; done))) | (refine setRow_eq_past ?_ ?_; (focus (first | (simp; done) | omega | (simp; omega)))) | apply setRow_eq_drewN | apply setRow_eq_drew | rfl))); (try go_frame)))
  obtain ⟨p2, hc1⟩ : ∃ c, c = patch p1 1026 (cs.extract 1026 (1026 + 33)) := ⟨_, rfl⟩
  rw [← hc1]
  obtain ⟨w8, hw1⟩ : ∃ x : World, x = w7.setRow gy p2 := ⟨_, rfl⟩
  have hkw8 : Blk w8 w.heap.size 49 cs := by rw [hw1]; exact hkw7.setRow_other (by omega) _
  have hyw8 : Blk w8 gy 49 p2 := by rw [hw1]; exact hyw7.setRow _
  have hzp2 : 1957 ≤ p2.size ∧ p2.size ≤ 1957 := by rw [hc1, size_patch (by rw [ZZ.out.2.1]; omega)]; omega
  obtain ⟨hzp2a, hzp2b⟩ := hzp2
  have HW1_ := Lib.hid hw1; have HC1 := Lib.hid hc1
  rw [← hw1]
  clear hw1 hc1 hkw7 hyw7
  go_upto_region 19 with (first
    | ((with_reducible apply l_load 42); (focus rfl); (focus (repeat (first | assumption | (apply Blk.newAt; (focus (simp; done))) | apply Blk.alloc | apply Blk.setRow | apply Blk.drewN | apply Blk.drew | (refine Blk.setRow_other ?_ ?_ _; focus (first | omega | (simp; omega)))))); (focus exact Try.underlying42); (focus rfl); (focus exact szCheck); (focus (first | omega | (simp; done) | (simp; omega) | assumption)); (try go_frame))
    | ((with_reducible apply l_store 42); (focus rfl); (focus rfl); (focus (repeat (first | assumption | (apply Blk.newAt; (focus (simp; done))) | apply Blk.alloc | apply Blk.setRow | apply Blk.drewN | apply Blk.drew | (refine Blk.setRow_other ?_ ?_ _; focus (first | omega | (simp; omega)))))); (focus exact szCheck); (focus (first | exact (ZZ.out.2.2.1) | (first | omega | (simp; done) | (simp; omega) | assumption))); (focus (first | omega | (simp; done) | (simp; omega) | assumption)); (focus exact (ones_extract Hone.out _ _)); (focus (repeat (first | (apply setRow_eq_at; (focus (simp; done))) | (refine setRow_eq_past ?_ ?_; (focus (first | (simp; done) | omega | (simp; omega)))) | apply setRow_eq_drewN | apply setRow_eq_drew | rfl))); (try go_frame)))
  obtain ⟨p3, hc2⟩ : ∃ c, c = patch p2 1059 (cs.extract 1059 (1059 + 33)) := ⟨_, rfl⟩
  rw [← hc2]
  obtain ⟨w9, hw2⟩ : ∃ x : World, x = w8.setRow gy p3 := ⟨_, rfl⟩
  have hkw9 : Blk w9 w.heap.size 49 cs := by rw [hw2]; exact hkw8.setRow_other (by omega) _
  have hyw9 : Blk w9 gy 49 p3 := by rw [hw2]; exact hyw8.setRow _
  have hzp3 : 1957 ≤ p3.size ∧ p3.size ≤ 1957 := by rw [hc2, size_patch (by rw [ZZ.out.2.2.1]; omega)]; omega
  obtain ⟨hzp3a, hzp3b⟩ := hzp3
  have HW2 := Lib.hid hw2; have HC2 := Lib.hid hc2
  rw [← hw2]
  clear hw2 hc2 hkw8 hyw8
  go_upto_region 20 with (first
    | ((with_reducible apply l_load 40); (focus rfl); (focus (repeat (first | assumption | (apply Blk.newAt; (focus (simp; done))) | apply Blk.alloc | apply Blk.setRow | apply Blk.drewN | apply Blk.drew | (refine Blk.setRow_other ?_ ?_ _; focus (first | omega | (simp; omega)))))); (focus exact Try.underlying40); (focus rfl); (focus exact szBl4); (focus (first | omega | (simp; done) | (simp; omega) | assumption)); (try go_frame))
    | ((with_reducible apply l_store 40); (focus rfl); (focus rfl); (focus (repeat (first | assumption | (apply Blk.newAt; (focus (simp; done))) | apply Blk.alloc | apply Blk.setRow | apply Blk.drewN | apply Blk.drew | (refine Blk.setRow_other ?_ ?_ _; focus (first | omega | (simp; omega)))))); (focus exact szBl4); (focus (first | exact (ZZ.out.2.2.2) | (first | omega | (simp; done) | (simp; omega) | assumption))); (focus (first | omega | (simp; done) | (simp; omega) | assumption)); (focus exact (ones_extract Hone.out _ _)); (focus (repeat (first | (apply setRow_eq_at; (focus (simp; done))) | (refine setRow_eq_past ?_ ?_; (focus (first | (simp; done) | omega | (simp; omega)))) | apply setRow_eq_drewN | apply setRow_eq_drew | rfl))); (try go_frame)))
  obtain ⟨p4, hc3⟩ : ∃ c, c = patch p3 989 (cs.extract 989 (989 + 4)) := ⟨_, rfl⟩
  rw [← hc3]
  obtain ⟨w10, hw3⟩ : ∃ x : World, x = w9.setRow gy p4 := ⟨_, rfl⟩
  have hkw10 : Blk w10 w.heap.size 49 cs := by rw [hw3]; exact hkw9.setRow_other (by omega) _
  have hyw10 : Blk w10 gy 49 p4 := by rw [hw3]; exact hyw9.setRow _
  have hzp4 : 1957 ≤ p4.size ∧ p4.size ≤ 1957 := by rw [hc3, size_patch (by rw [ZZ.out.2.2.2]; omega)]; omega
  obtain ⟨hzp4a, hzp4b⟩ := hzp4
  have HW3 := Lib.hid hw3; have HC3 := Lib.hid hc3
  rw [← hw3]
  clear hw3 hc3 hkw9 hyw9
  have WB : Hid (WfC p4 ∧ Alike p4 cs) := Lib.hid (by
    rw [HC3.out, HC2.out, HC1.out, HC0.out]
    exact ⟨back_wf H.out.wf (DW.out _ h6.out).2.2.wf, ord_back H.out.wf (DW.out _ h6.out).2.2.wf OP.out⟩)
  have DB : Hid (Below w.heap.size w w10 ∧ Below gy w6 w10) := Lib.hid (by
    rw [HW3.out, HW2.out, HW1_.out, HW0.out]
    exact ⟨below_setRow (below_setRow (below_setRow (below_setRow (DW.out _ h6.out).1 (by omega) _) (by omega) _) (by omega) _) (by omega) _, below_setRow (below_setRow (below_setRow (below_setRow (Below.refl _ _) (Nat.le_refl _) _) (Nat.le_refl _) _) (Nat.le_refl _) _) (Nat.le_refl _) _⟩)
  have I1 : Hid (IsSt w10 w.heap.size cs L) := Lib.hid ((DW.out _ h6.out).2.1.below (DB.out.2.mono (by omega)))
  have I2 : Hid (IsSt w10 gy p4 L) := Lib.hid (((DW.out _ h6.out).2.2.below DB.out.2).recell WB.out.1 fun k hk => (by
    have e1 : p4[k]? = p[k]? := by
      rw [HC3.out, HC2.out, HC1.out, HC0.out]
      have hs := (DW.out _ h6.out).2.2.wf.size
      obtain ⟨z1, z2, z3, z4⟩ := ZZ.out
      have hk2 : k < 989 ∨ k = 1092 := by rcases hk with rfl | rfl | rfl | rfl | rfl | rfl | rfl <;> omega
      have q1 : (patch p 993 (cs.extract 993 (993 + 33))).size = 1957 := by rw [size_patch (by omega)]; exact hs
      have q2 : (patch (patch p 993 (cs.extract 993 (993 + 33))) 1026 (cs.extract 1026 (1026 + 33))).size = 1957 := by rw [size_patch (by omega)]; exact q1
      have q3 : (patch (patch (patch p 993 (cs.extract 993 (993 + 33))) 1026 (cs.extract 1026 (1026 + 33))) 1059 (cs.extract 1059 (1059 + 33))).size = 1957 := by rw [size_patch (by omega)]; exact q2
      rw [get_patch_out (by omega) (by omega), get_patch_out (by omega) (by omega), get_patch_out (by omega) (by omega), get_patch_out (by omega) (by omega)]
    exact e1))
  have hgz : w6.heap.size ≤ w10.heap.size := DB.out.2.size
  have EE : Hid (encB cs L = encB p4 L) := Lib.hid (encB_congr (by rw [H.out.wf.size, WB.out.1.size]) fun i hi => (WB.out.2 i hi).symm)
  go_wp2_with (first
    | ((with_reducible apply l_loadw 49); (focus rfl); (focus (repeat (first | assumption | (apply Blk.newAt; (focus (simp; done))) | apply Blk.alloc | apply Blk.setRow | apply Blk.drewN | apply Blk.drew | (refine Blk.setRow_other ?_ ?_ _; focus (first | omega | (simp; omega)))))); (focus exact Try.underlying49); (focus rfl); (focus exact szState); (focus (first | exact omega | (first | omega | (simp; done) | (simp; omega) | assumption))); (try go_frame))
    | (go_at_call 13; refine (same10_yes cs p4 L w.heap.size gy _ (by omega) (by omega) I1.out I2.out EE.out).mono ?_
       rintro e w11 ⟨rfl, hb11⟩
       have DF := Lib.hid (DB.out.1.trans (hb11.mono (by omega)))
       clear hb11 hkw10 hyw10))
  go_ret
  exact ⟨rfl, DF.out⟩
end Go.Proofs.Ytikbkcidalippaa
