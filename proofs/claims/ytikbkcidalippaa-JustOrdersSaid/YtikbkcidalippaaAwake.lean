/-
  just.Justify where it refuses; the law's awake answers yes.
-/
import Derived.Test.YtikbkcidalippaaWeighErr
import Derived.Test.YtikbkcidalippaaWeigh
import Derived.Test.YtikbkcidalippaaWeighs
namespace Go.Proofs.Ytikbkcidalippaa
open Go.RowKit
attribute [local irreducible] Hid Blk
set_option maxRecDepth 100000

/-- The zero state at the slot n. -/
noncomputable def stn (n : Int) : Array Value := zst.setIfInBounds 33 (.int .u64 n)
theorem built_stn (n : Int) : Try.prog.built 49 [(2, .int .u64 n)] = some (stn n) := by
  have hz : ((Try.prog.info? 49).bind (·.zero)).isSome = true := by kernel_rfl
  have hs : (zc Try.prog 49).size = 1957 := szzState
  rw [built_struct hz Try.underlying49 (places := [(0, 1), (1, 32), (33, 1), (34, 9), (43, 98), (141, 256), (397, 256), (653, 1), (654, 65), (719, 1), (720, 1), (721, 1), (722, 1), (723, 256), (979, 8), (987, 1), (988, 1), (989, 4), (993, 33), (1026, 33), (1059, 33), (1092, 1), (1093, 432), (1525, 432)]) (by kernel_rfl)]
  unfold stn
  show Instr.fill _ zst _ = _
  have hs2 : zst.size = 1957 := zst_size
  generalize zst = Z at *
  rw [fill_cons (off := 33) rfl (by show 33 + 1 ≤ _; omega), fill_nil]
  show some (patch Z 33 #[.int .u64 n]) = _
  rw [← patch_set (by omega)]
theorem stn_size (n : Int) : (stn n).size = 1957 := by unfold stn; rw [Array.size_setIfInBounds]; exact zst_size
theorem stn_get {n : Int} {i : Nat} (h : i ≠ 33) : (stn n)[i]? = zst[i]? := get_set_ne' (Ne.symm h)
theorem stn_slot (n : Int) : (stn n)[33]? = some (.int .u64 n) := get_set_eq' (by rw [zst_size]; decide)
theorem stn_num {n : Int} {i : Nat} (h : i ≠ 33) (hi : i < 1957) : cN (stn n) i = 0 := (cN_eq (stn_get h)).trans (zst_num hi)
theorem stn_wf {n : Int} (hn : W64 n) : WfC (stn n) := zst_wf.set hn
theorem stn_is {n : Int} (hn : W64 n) (w : World) (B : Nat) : IsSt w B (stn n) (fun _ => []) :=
  zst_like (stn_wf hn) fun k hk => by
    have hi : k < 1957 := by rcases hk with rfl | rfl | rfl | rfl | rfl | rfl | rfl <;> decide
    rw [stn_get (by rintro rfl; exact absurd hk (by decide)), zst_get hi, ck_slice hk]; rfl
theorem sumN_zero : ∀ l : List Value, (∀ (j : Nat) u, l[j]? = some u → numOf (some u) = 0) → sumN l = 0
  | [], _ => rfl
  | v :: r, h => by
    have h1 := h 0 v rfl
    have h2 := sumN_zero r fun j u hu => h (j + 1) u (by simpa using hu)
    simp only [sumN, h1, h2]; rfl
/-- A state with no validators, no slashings. -/
theorem right_bare {cs : Array Value} (h33 : cN cs 33 < 1099511627776) (h720 : cN cs 720 < 1099511627776) (h43 : cN cs 43 ≤ cN cs 33) (h993 : cN cs 993 ≤ cN cs 33 / 4) (h1026 : cN cs 1026 ≤ cN cs 33 / 4) (h1059 : cN cs 1059 ≤ cN cs 33 / 4)
    (hs : ∀ i, 979 ≤ i → i < 987 → cN cs i = 0) : RightP cs (fun _ => []) := by
  refine ⟨by decide, rfl, rfl, rfl, rfl, by decide, by decide, h33, h720, h43, h993, h1026, h1059, fun i hi => absurd hi (by simp [cnt]), fun i hi => absurd hi (by simp [cnt]), by decide, ?_⟩
  rw [sumN_zero _ fun j u hu => ?_]
  · decide
  · rw [Array.getElem?_toList] at hu
    obtain ⟨hu, hl⟩ := get_ext hu
    have := hs (979 + j) (by omega) (by omega)
    unfold cN at this
    rw [hu] at this
    exact this
theorem stn_right {n : Int} (h0 : 0 ≤ n) (h1 : n < 1099511627776) : RightP (stn n) (fun _ => []) := by
  have e := cN_of (stn_slot n)
  have ep : 0 ≤ n / 4 := by omega
  refine right_bare (by rw [e]; exact h1) (by rw [stn_num (by decide) (by decide)]; decide) ?_ ?_ ?_ ?_ fun i h2 h3 => stn_num (by omega) (by omega)
  all_goals rw [stn_num (by decide) (by decide), e]; first | exact ep | exact h0

set_option maxHeartbeats 2000000 in
theorem justify_err (cs : Array Value) (L : Nat → List Value) (B : Nat) (w : World) (hB : B ≤ w.heap.size) (h : IsSt w B cs L) (hno : ¬ (RightP cs L ∧ cN cs 33 % 4 = 3)) :
    Calls Try.prog 14 #[.agg cs] w fun e w' => e = .returned (.tuple #[.agg zst, .int .i64 1]) ∧ Below w.heap.size w w' := by
  obtain ⟨h33, w33a, w33b⟩ := h.wf.u64 33 rfl
  have H := Lib.hid h
  have Hno := Lib.hid hno
  have hsz1 : 1957 ≤ cs.size := Nat.le_of_eq h.wf.size.symm
  have hsz2 : cs.size ≤ 1957 := Nat.le_of_eq h.wf.size
  have hS := Lib.hid zst_size
  have hZs1 : 1957 ≤ zst.size := Nat.le_of_eq zst_size.symm
  have hZs2 : zst.size ≤ 1957 := Nat.le_of_eq zst_size
  have hO := Lib.hid zst_wf.ones
  have hBu := Lib.hid built_zst
  have hzz : Hid (zc Try.prog 49 = zst) := Lib.hid rfl
  obtain ⟨r, hr⟩ : ∃ r, r = rightB cs L := ⟨_, rfl⟩
  have HR := Lib.hid hr.symm
  clear h hno hr
  generalize zst = Z at *
  generalize hs : cN cs 33 = s at *
  have Hs := Lib.hid hs
  clear hs
  by_cases c1 : RightP cs L
  case neg =>
    obtain rfl : r = false := by rw [← HR.out]; exact rightB_no c1
    clear c1
    go_enter Try.func14, Try.ntmps14
    go_upto_region 1 with (first | ((with_reducible apply l_alloc 49); (focus kernel_rfl); (try go_frame)) | fail)
    simp only [World.size_alloc]
    rw [hzz.out]
    obtain ⟨wx, hwx⟩ : ∃ wx : World, wx = (w.alloc (.cells cs 49)).alloc (.cells Z 49) := ⟨_, rfl⟩
    have hbx : Below w.heap.size w wx := by rw [hwx]; exact (by (repeat (first | exact Below.refl _ _ | apply Below.drew | apply below_drewN | (refine Below.alloc ?_ ?_ _) | (refine below_setRow ?_ ?_ _) | (refine Below.setCell ?_ ?_ _) | (refine Below.trans ?_ (Below.mono (by assumption) ?_)) | omega | (focus (simp; done)) | (focus (simp; omega)))))
    have hkx : Blk wx w.heap.size 49 cs := by rw [hwx]; exact (by (repeat (first | assumption | (apply Blk.newAt; (focus (simp; done))) | apply Blk.alloc | apply Blk.setRow | apply Blk.drewN | apply Blk.drew | (refine Blk.setRow_other ?_ ?_ _; focus (first | omega | (simp; omega))))))
    have hzx : Blk wx (w.heap.size + 1) 49 Z := by rw [hwx]; exact (by (repeat (first | assumption | (apply Blk.newAt; (focus (simp; done))) | apply Blk.alloc | apply Blk.setRow | apply Blk.drewN | apply Blk.drew | (refine Blk.setRow_other ?_ ?_ _; focus (first | omega | (simp; omega))))))
    have hgx : w.heap.size + 2 ≤ wx.heap.size := by rw [hwx]; simp
    rw [← hwx]
    clear hwx
    have Bx := Lib.hid hbx
    have hcell := hkx.cell
    have hfz := hkx.frozen
    go_upto_region 2 with fail
    clear hcell hfz
    go_wp2_with (first
      | ((with_reducible apply l_loadw 49); (focus rfl); (focus (repeat (first | assumption | (apply Blk.newAt; (focus (simp; done))) | apply Blk.alloc | apply Blk.setRow | apply Blk.drewN | apply Blk.drew | (refine Blk.setRow_other ?_ ?_ _; focus (first | omega | (simp; omega)))))); (focus exact Try.underlying49); (focus rfl); (focus exact szState); (focus (first | exact omega | (first | omega | (simp; done) | (simp; omega) | assumption))); (try go_frame))
      | (go_at_call 24; refine (right_any cs L w.heap.size _ (by omega) ?_).mono ?_
         focus (exact (H.out.more hB).below Bx.out)
         rintro e w1 ⟨rfl, hb1⟩
         rw [HR.out]
         have hd1 : Below w.heap.size w w1 := Below.trans hbx (Below.mono hb1 (by omega))
         have hk1 : Blk w1 w.heap.size 49 cs := Blk.below hkx hb1 (by omega)
         have hz1 : Blk w1 (w.heap.size + 1) 49 Z := Blk.below hzx hb1 (by omega)
         have D1 := Lib.hid hd1
         clear hkx hzx hbx hb1
         have hcell := hk1.cell
         have hfz := hk1.frozen)
      | ((with_reducible apply l_build 49); (focus rfl); (focus exact hBu.out); (try go_frame))
      | ((with_reducible apply l_storew 49); (focus rfl); (focus rfl); (focus (repeat (first | assumption | (apply Blk.newAt; (focus (simp; done))) | apply Blk.alloc | apply Blk.setRow | apply Blk.drewN | apply Blk.drew | (refine Blk.setRow_other ?_ ?_ _; focus (first | omega | (simp; omega)))))); (focus exact szState); (focus (first | exact hS.out | (first | omega | (simp; done) | (simp; omega) | assumption))); (focus (first | omega | (simp; done) | (simp; omega) | assumption)); (focus exact hO.out); (focus (repeat (first | (apply setRow_eq_at; (focus (simp; done))) | (refine setRow_eq_past ?_ ?_; (focus (first | (simp; done) | omega | (simp; omega)))) | apply setRow_eq_drewN | apply setRow_eq_drew | rfl))); (try go_frame)))
    ((with_reducible apply l_ret2); (focus rfl); (focus rfl); (focus rfl); (focus (repeat (first | assumption | (apply Blk.newAt; (focus (simp; done))) | apply Blk.alloc | apply Blk.setRow | apply Blk.drewN | apply Blk.drew | (refine Blk.setRow_other ?_ ?_ _; focus (first | omega | (simp; omega)))))); (focus exact Try.underlying49); (focus rfl); (focus exact szState); (focus (first | exact hS.out | (first | omega | (simp; done) | (simp; omega) | assumption))); (focus rfl))
    exact ⟨rfl, below_setRow D1.out (by omega) _⟩

  obtain rfl : r = true := by rw [← HR.out]; exact rightB_yes c1
  have m1 : (s % 4 != 3) = true := by rw [bne_iff_ne]; exact fun h => Hno.out ⟨c1, h⟩
  clear c1
  case _ =>
    go_enter Try.func14, Try.ntmps14
    go_upto_region 1 with (first | ((with_reducible apply l_alloc 49); (focus kernel_rfl); (try go_frame)) | fail)
    simp only [World.size_alloc]
    rw [hzz.out]
    obtain ⟨wx, hwx⟩ : ∃ wx : World, wx = (w.alloc (.cells cs 49)).alloc (.cells Z 49) := ⟨_, rfl⟩
    have hbx : Below w.heap.size w wx := by rw [hwx]; exact (by (repeat (first | exact Below.refl _ _ | apply Below.drew | apply below_drewN | (refine Below.alloc ?_ ?_ _) | (refine below_setRow ?_ ?_ _) | (refine Below.setCell ?_ ?_ _) | (refine Below.trans ?_ (Below.mono (by assumption) ?_)) | omega | (focus (simp; done)) | (focus (simp; omega)))))
    have hkx : Blk wx w.heap.size 49 cs := by rw [hwx]; exact (by (repeat (first | assumption | (apply Blk.newAt; (focus (simp; done))) | apply Blk.alloc | apply Blk.setRow | apply Blk.drewN | apply Blk.drew | (refine Blk.setRow_other ?_ ?_ _; focus (first | omega | (simp; omega))))))
    have hzx : Blk wx (w.heap.size + 1) 49 Z := by rw [hwx]; exact (by (repeat (first | assumption | (apply Blk.newAt; (focus (simp; done))) | apply Blk.alloc | apply Blk.setRow | apply Blk.drewN | apply Blk.drew | (refine Blk.setRow_other ?_ ?_ _; focus (first | omega | (simp; omega))))))
    have hgx : w.heap.size + 2 ≤ wx.heap.size := by rw [hwx]; simp
    rw [← hwx]
    clear hwx
    have Bx := Lib.hid hbx
    have hcell := hkx.cell
    have hfz := hkx.frozen
    go_upto_region 2 with fail
    clear hcell hfz
    go_wp2_with (first
      | ((with_reducible apply l_loadw 49); (focus rfl); (focus (repeat (first | assumption | (apply Blk.newAt; (focus (simp; done))) | apply Blk.alloc | apply Blk.setRow | apply Blk.drewN | apply Blk.drew | (refine Blk.setRow_other ?_ ?_ _; focus (first | omega | (simp; omega)))))); (focus exact Try.underlying49); (focus rfl); (focus exact szState); (focus (first | exact omega | (first | omega | (simp; done) | (simp; omega) | assumption))); (try go_frame))
      | (go_at_call 24; refine (right_any cs L w.heap.size _ (by omega) ?_).mono ?_
         focus (exact (H.out.more hB).below Bx.out)
         rintro e w1 ⟨rfl, hb1⟩
         rw [HR.out]
         have hd1 : Below w.heap.size w w1 := Below.trans hbx (Below.mono hb1 (by omega))
         have hk1 : Blk w1 w.heap.size 49 cs := Blk.below hkx hb1 (by omega)
         have hz1 : Blk w1 (w.heap.size + 1) 49 Z := Blk.below hzx hb1 (by omega)
         have D1 := Lib.hid hd1
         clear hkx hzx hbx hb1
         have hcell := hk1.cell
         have hfz := hk1.frozen)
      | ((with_reducible apply l_build 49); (focus rfl); (focus exact hBu.out); (try go_frame))
      | ((with_reducible apply l_storew 49); (focus rfl); (focus rfl); (focus (repeat (first | assumption | (apply Blk.newAt; (focus (simp; done))) | apply Blk.alloc | apply Blk.setRow | apply Blk.drewN | apply Blk.drew | (refine Blk.setRow_other ?_ ?_ _; focus (first | omega | (simp; omega)))))); (focus exact szState); (focus (first | exact hS.out | (first | omega | (simp; done) | (simp; omega) | assumption))); (focus (first | omega | (simp; done) | (simp; omega) | assumption)); (focus exact hO.out); (focus (repeat (first | (apply setRow_eq_at; (focus (simp; done))) | (refine setRow_eq_past ?_ ?_; (focus (first | (simp; done) | omega | (simp; omega)))) | apply setRow_eq_drewN | apply setRow_eq_drew | rfl))); (try go_frame)))
    ((with_reducible apply l_ret2); (focus rfl); (focus rfl); (focus rfl); (focus (repeat (first | assumption | (apply Blk.newAt; (focus (simp; done))) | apply Blk.alloc | apply Blk.setRow | apply Blk.drewN | apply Blk.drew | (refine Blk.setRow_other ?_ ?_ _; focus (first | omega | (simp; omega)))))); (focus exact Try.underlying49); (focus rfl); (focus exact szState); (focus (first | exact hS.out | (first | omega | (simp; done) | (simp; omega) | assumption))); (focus rfl))
    exact ⟨rfl, below_setRow D1.out (by omega) _⟩


set_option maxHeartbeats 2000000 in
theorem awake_any (w : World) : Calls Try.prog 8 #[] w fun e w' => e = .returned (.bool true) ∧ Below w.heap.size w w' := by
  have h11 := Lib.hid (built_stn 11)
  have h10 := Lib.hid (built_stn 10)
  have w11 : WfC (stn 11) := stn_wf ⟨by decide, by decide⟩
  have i11 : ∀ (w : World) B, IsSt w B (stn 11) (fun _ => []) := fun w B => stn_is ⟨by decide, by decide⟩ w B
  have i10 : ∀ (w : World) B, IsSt w B (stn 10) (fun _ => []) := fun w B => stn_is ⟨by decide, by decide⟩ w B
  have e11 : cN (stn 11) 33 = 11 := cN_of (stn_slot 11)
  have e10 : cN (stn 10) 33 = 10 := cN_of (stn_slot 10)
  have r11 : RightP (stn 11) (fun _ => []) := stn_right (by decide) (by decide)
  have hy : ∀ cs' : Array Value, WfC cs' → (∀ i, ¬ isSO i → cs'[i]? = (stn 11)[i]?) → (weighC cs' 3 2 2).size = 1957 ∧ (weighC cs' 3 2 2).all (·.oneCell') = true ∧ (weighC cs' 3 2 2)[1026]? = some (.int .u64 2) ∧ (weighC cs' 3 2 2)[989]? = some (.bool true) ∧ (weighC cs' 3 2 2)[990]? = some (.bool true) := by
    intro cs' hw he
    have e33 : cN cs' 33 = 11 := (cN_eq (he 33 (by decide))).trans e11
    refine ⟨(hw.weigh 3 2 2).size, (hw.weigh 3 2 2).ones, ?_, ?_, ?_⟩
    · rw [weigh_low hw _ _ _ (by decide), mid_just hw, e33]; rfl
    · rw [weigh_low hw _ _ _ (by decide), mid_b0 hw]; rfl
    · rw [weigh_low hw _ _ _ (by decide), mid_b1 hw]; rfl
  have I11 := Lib.hid i11; have I10 := Lib.hid i10; have E11 := Lib.hid e11; have E10 := Lib.hid e10; have R11 := Lib.hid r11; have HY := Lib.hid hy
  clear i11 i10 e11 e10 r11 hy w11
  have ZS := Lib.hid zst_size
  have ZO := Lib.hid zst_wf.ones
  generalize stn 11 = S11 at *
  generalize stn 10 = S10 at *
  go_enter Try.func8, Try.ntmps8
  go_upto_region 3 with (first
    | ((with_reducible apply l_build 49); (focus rfl); (focus exact h11.out); (try go_frame))
    | ((with_reducible apply l_build 49); (focus rfl); (focus exact h10.out); (try go_frame))
    | (go_at_call 10
       refine (weigh_ok S11 (fun _ => []) w.heap.size _ (Nat.le_refl _) (I11.out _ _) R11.out (by rw [E11.out]; rfl) 3 2 2 (by decide) (by decide) (by decide) (by decide) (by decide) (by decide)).mono ?_
       rintro e w1 ⟨cs', rfl, hcs, hst, -, hb1⟩
       obtain ⟨y1, y2, y3, y4, y5⟩ := HY.out cs' hst.wf hcs
       have hb1 := Lib.hid hb1
       have Y1 := Lib.hid y1; have Y2 := Lib.hid y2
       clear hcs hst y1 y2
       generalize weighC cs' 3 2 2 = Y at *)
    | (go_at_call 14
       refine (justify_err S10 (fun _ => []) w.heap.size _ ?_ (I10.out _ _) (by rw [E10.out]; exact fun h => absurd h.2 (by decide))).mono ?_
       focus (have := hb1.out.size; simp; omega)
       rintro e w2 ⟨rfl, hb2⟩
       have hk2 := (Blk.new w1 49 Y).below hb2 (by simp)
       have hz2 := hb2.size
       simp only [World.size_alloc] at hz2
       have hb2 := Lib.hid hb2)
    | ((with_reducible apply l_alloc 49); (focus kernel_rfl); (try go_frame))
    | ((with_reducible apply l_storew 49); (focus rfl); (focus rfl); (focus (repeat (first | assumption | (apply Blk.newAt; (focus (simp; done))) | apply Blk.alloc | apply Blk.setRow | apply Blk.drewN | apply Blk.drew | (refine Blk.setRow_other ?_ ?_ _; focus (first | omega | (simp; omega)))))); (focus exact szState); (focus (first | exact Y1.out | (first | omega | (simp; done) | (simp; omega) | assumption))); (focus (first | omega | (simp; done) | (simp; omega) | assumption)); (focus exact Y2.out); (focus (repeat (first | (apply setRow_eq_at; (focus (simp; done))) | (refine setRow_eq_past ?_ ?_; (focus (first | (simp; done) | omega | (simp; omega)))) | apply setRow_eq_drewN | apply setRow_eq_drew | rfl))); (try go_frame))
    | ((with_reducible apply l_storew 49); (focus rfl); (focus rfl); (focus (repeat (first | assumption | (apply Blk.newAt; (focus (simp; done))) | apply Blk.alloc | apply Blk.setRow | apply Blk.drewN | apply Blk.drew | (refine Blk.setRow_other ?_ ?_ _; focus (first | omega | (simp; omega)))))); (focus exact szState); (focus (first | exact ZS.out | (first | omega | (simp; done) | (simp; omega) | assumption))); (focus (first | omega | (simp; done) | (simp; omega) | assumption)); (focus exact ZO.out); (focus (repeat (first | (apply setRow_eq_at; (focus (simp; done))) | (refine setRow_eq_past ?_ ?_; (focus (first | (simp; done) | omega | (simp; omega)))) | apply setRow_eq_drewN | apply setRow_eq_drew | rfl))); (try go_frame)))
  obtain ⟨wz, hwz⟩ : ∃ wz : World, wz = w2.alloc (.cells zst 49) := ⟨_, rfl⟩
  have hkz : Blk wz w1.heap.size 49 Y := by rw [hwz]; exact hk2.alloc _
  have hfin : Below w.heap.size w wz := by
    rw [hwz]
    exact Below.alloc (Below.trans (Below.alloc hb1.out (by have := hb1.out.size; omega) _) (Below.mono hb2.out (by have := hb1.out.size; simp; omega))) (by have := hb1.out.size; omega) _
  have hfin := Lib.hid hfin
  rw [← hwz]
  have hcell := hkz.cell
  clear hwz hk2 hkz
  go_wp2_with fail
  go_ret
  exact ⟨rfl, hfin.out⟩

end Go.Proofs.Ytikbkcidalippaa
