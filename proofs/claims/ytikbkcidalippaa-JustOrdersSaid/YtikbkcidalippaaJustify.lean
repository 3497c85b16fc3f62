/-
  just.Justify, where the state is right and at an epoch's end.
-/
import Derived.Test.YtikbkcidalippaaSums
import Derived.Test.YtikbkcidalippaaWeigh
import Derived.Test.YtikbkcidalippaaRWeighErr
import Derived.Test.YtikbkcidalippaaAddReg
import Derived.Deep.DeepCutAuto
namespace Go.Proofs.Ytikbkcidalippaa
open Go.RowKit
attribute [local irreducible] Hid Blk
set_option maxRecDepth 100000

/-- What those who attested have, of the epoch before and of this one. -/
def prevOf (cs : Array Value) (L : Nat → List Value) : Int := max1 (effTo (L 721) (unsB (L 721) (L 987) (subz (cN cs 33 / 4) 1) 1) (cnt L 721))
def curOf (cs : Array Value) (L : Nat → List Value) : Int := max1 (effTo (L 721) (unsB (L 721) (L 988) (cN cs 33 / 4) 1) (cnt L 721))

@[simp] theorem szzS3 : (zc Try.prog 79) = #[.int .u64 0, .int .u64 0, .int .u64 0] := by kernel_rfl
/-- In the midst of the walk over the registry: the three sums. -/
structure Jz (w : World) (cs Z : Array Value) (g : Nat) (w' : World) (a b c : Int) : Prop where
  bel : Below w.heap.size w w'
  xb : Blk w' w.heap.size 49 cs
  zb : Blk w' (w.heap.size + 1) 49 Z
  sb : Blk w' g 79 #[.int .u64 a, .int .u64 b, .int .u64 c]
  hg : w.heap.size + 2 ≤ g
section
variable {w w' w'' : World} {cs Z : Array Value} {g : Nat} {a b c : Int}
theorem Jz.below (h : Jz w cs Z g w' a b c) (hb : Below w'.heap.size w' w'') : Jz w cs Z g w'' a b c := by
  have h1 := h.sb.lt
  have h2 := h.hg
  exact ⟨h.bel.trans (hb.mono (by omega)), h.xb.below hb (by omega), h.zb.below hb (by omega), h.sb.below hb h1, h2⟩
theorem Jz.set0 (h : Jz w cs Z g w' a b c) (x : Int) : Jz w cs Z g (w'.setCell ⟨g, 0, none⟩ (.int .u64 x)) x b c := by
  have h2 := h.hg
  exact ⟨h.bel.setCell (show w.heap.size ≤ g by omega) _, blk_setCell_other h.xb (show w.heap.size ≠ g by omega) _, blk_setCell_other h.zb (show w.heap.size + 1 ≠ g by omega) _, by simpa using blk_setCell h.sb 0 (.int .u64 x), h2⟩
theorem Jz.set1 (h : Jz w cs Z g w' a b c) (x : Int) : Jz w cs Z g (w'.setCell ⟨g, 1, none⟩ (.int .u64 x)) a x c := by
  have h2 := h.hg
  exact ⟨h.bel.setCell (show w.heap.size ≤ g by omega) _, blk_setCell_other h.xb (show w.heap.size ≠ g by omega) _, blk_setCell_other h.zb (show w.heap.size + 1 ≠ g by omega) _, by simpa using blk_setCell h.sb 1 (.int .u64 x), h2⟩
theorem Jz.set2 (h : Jz w cs Z g w' a b c) (x : Int) : Jz w cs Z g (w'.setCell ⟨g, 2, none⟩ (.int .u64 x)) a b x := by
  have h2 := h.hg
  exact ⟨h.bel.setCell (show w.heap.size ≤ g by omega) _, blk_setCell_other h.xb (show w.heap.size ≠ g by omega) _, blk_setCell_other h.zb (show w.heap.size + 1 ≠ g by omega) _, by simpa using blk_setCell h.sb 2 (.int .u64 x), h2⟩
theorem Jz.drew (h : Jz w cs Z g w' a b c) : Jz w cs Z g w'.drew a b c := ⟨h.bel.drew, h.xb.drew, h.zb.drew, h.sb.drew, h.hg⟩
theorem Jz.drewN (h : Jz w cs Z g w' a b c) (n : Nat) : Jz w cs Z g (w'.drewN n) a b c := ⟨below_drewN h.bel n, h.xb.drewN n, h.zb.drewN n, h.sb.drewN n, h.hg⟩
end

set_option maxHeartbeats 8000000 in
theorem justify_ok (cs : Array Value) (L : Nat → List Value) (B : Nat) (w : World) (hB : B ≤ w.heap.size) (h : IsSt w B cs L) (hr : RightP cs L) (hm : cN cs 33 % 4 = 3) (he : 1 < cN cs 33 / 4) :
    Calls Try.prog 14 #[.agg cs] w fun e w' => ∃ cs', e = .returned (.tuple #[.agg (weighC cs' (allOf cs L) (prevOf cs L) (curOf cs L)), .int .i64 0]) ∧ (∀ i, ¬ isSO i → cs'[i]? = cs[i]?) ∧ IsSt w' w'.heap.size cs' L ∧ Below w.heap.size w w' := by
  obtain ⟨h33, w33a, w33b⟩ := h.wf.u64 33 rfl
  have s1 := hr.slot
  obtain ⟨av, nv, cv, h721, sv⟩ := h.sl 721 (by decide)
  obtain ⟨ap, np, cp, h987, sp⟩ := h.sl 987 (by decide)
  obtain ⟨ac, nc, cc, h988, sc⟩ := h.sl 988 (by decide)
  have hl : (L 721).length = nv * 86 := sv.len
  have hc : cnt L 721 = nv := by unfold cnt; rw [hl]; exact Nat.mul_div_cancel _ (by decide)
  have hlp : (L 987).length = np := by have := sp.len; simpa [esz] using this
  have hlc : (L 988).length = nc := by have := sc.len; simpa [esz] using this
  obtain rfl : np = nv := by
    have : cnt L 987 = cnt L 721 := hr.prev
    rw [hc] at this
    rw [← this]; unfold cnt; rw [hlp]; simp [esz]
  obtain rfl : nc = np := by
    have : cnt L 988 = cnt L 721 := hr.cur
    rw [hc] at this
    rw [← this]; unfold cnt; rw [hlc]; simp [esz]
  have hnv : nc ≤ 65536 := by have := hr.vals; omega
  have HV := Lib.hid (fun k (hk : k < nc) => val_of h (k := k) (by rw [hc]; exact hk))
  have hev := eff_of h hr
  rw [hc] at hev
  have HEv := Lib.hid hev
  have HFp := Lib.hid (fun k (hk : k < nc) => h.eN8 987 k (by decide) rfl (by omega))
  have HFc := Lib.hid (fun k (hk : k < nc) => h.eN8 988 k (by decide) rfl (by omega))
  have HSv := Lib.hid sv; have HSp := Lib.hid sp; have HSc := Lib.hid sc
  have H := Lib.hid h
  have R := Lib.hid (rightB_yes hr)
  have Rp := Lib.hid hr
  have Hm := Lib.hid hm
  have hsz1 : 1957 ≤ cs.size := Nat.le_of_eq h.wf.size.symm
  have hsz2 : cs.size ≤ 1957 := Nat.le_of_eq h.wf.size
  have hall : allOf cs L = max1 (effTo (L 721) (actB (L 721) (cN cs 33 / 4)) nc) := by unfold allOf; rw [hc]
  have hprev : prevOf cs L = max1 (effTo (L 721) (unsB (L 721) (L 987) (cN cs 33 / 4 - 1) 1) nc) := by
    have e : subz (cN cs 33 / 4) 1 = cN cs 33 / 4 - 1 := by unfold subz; rw [if_pos (by omega)]
    unfold prevOf; rw [hc, e]
  have hcur : curOf cs L = max1 (effTo (L 721) (unsB (L 721) (L 988) (cN cs 33 / 4) 1) nc) := by unfold curOf; rw [hc]
  rw [hall, hprev, hcur]
  have m1 : (cN cs 33 % 4 != 3) = false := by rw [hm]; rfl
  clear h hr hm hev sv sp sc hl hlp hlc hc hall hprev hcur
  generalize hs : cN cs 33 = s at *
  have Hs := Lib.hid hs
  clear hs
  have HE0 := Lib.hid (show W64 (s / 4) from ⟨by omega, by omega⟩)
  have HE1 := Lib.hid (show W64 (s / 4 - 1) from ⟨by omega, by omega⟩)
  have H721 := Lib.hid h721; have H987 := Lib.hid h987; have H988 := Lib.hid h988
  go_enter Try.func14, Try.ntmps14
  go_upto_region 1 with ((with_reducible apply l_alloc 49); (focus kernel_rfl); (try go_frame))
  simp only [World.size_alloc]
  obtain ⟨wx, hwx⟩ : ∃ wx : World, wx = (w.alloc (.cells cs 49)).alloc (.cells (zc Try.prog 49) 49) := ⟨_, rfl⟩
  have hbx : Below w.heap.size w wx := by rw [hwx]; exact (by (repeat (first | exact Below.refl _ _ | apply Below.drew | apply below_drewN | (refine Below.alloc ?_ ?_ _) | (refine below_setRow ?_ ?_ _) | (refine Below.setCell ?_ ?_ _) | (refine Below.trans ?_ (Below.mono (by assumption) ?_)) | omega | (focus (simp; done)) | (focus (simp; omega)))))
  have hkx : Blk wx w.heap.size 49 cs := by rw [hwx]; exact (by (repeat (first | assumption | (apply Blk.newAt; (focus (simp; done))) | apply Blk.alloc | apply Blk.setRow | apply Blk.drewN | apply Blk.drew | (refine Blk.setRow_other ?_ ?_ _; focus (first | omega | (simp; omega))))))
  have hzx : Blk wx (w.heap.size + 1) 49 (zc Try.prog 49) := by rw [hwx]; exact (by (repeat (first | assumption | (apply Blk.newAt; (focus (simp; done))) | apply Blk.alloc | apply Blk.setRow | apply Blk.drewN | apply Blk.drew | (refine Blk.setRow_other ?_ ?_ _; focus (first | omega | (simp; omega))))))
  have hgx : w.heap.size + 2 ≤ wx.heap.size := by rw [hwx]; simp
  rw [← hwx]
  clear hwx
  have Bx := Lib.hid hbx
  have hcell := hkx.cell
  go_upto_region 2 with fail
  clear hcell
  go_upto_region 6 with (first
    | ((with_reducible apply l_loadw 49); (focus rfl); (focus (repeat (first | assumption | (apply Blk.newAt; (focus (simp; done))) | apply Blk.alloc | apply Blk.setRow | apply Blk.drewN | apply Blk.drew | (refine Blk.setRow_other ?_ ?_ _; focus (first | omega | (simp; omega)))))); (focus exact Try.underlying49); (focus rfl); (focus exact szState); (focus (first | exact omega | (first | omega | (simp; done) | (simp; omega) | assumption))); (try go_frame))
    | (go_at_call 24; refine (right_any cs L w.heap.size _ (by omega) ?_).mono ?_
       focus (exact (H.out.more hB).below Bx.out)
       rintro e w1 ⟨rfl, hb1⟩
       rw [R.out]
       have hg1 : wx.heap.size ≤ w1.heap.size := hb1.size
       have D1 := Lib.hid (Below.trans hbx (Below.mono hb1 (by omega)))
       have hk1 : Blk w1 w.heap.size 49 cs := Blk.below hkx hb1 (by omega)
       have hz1 : Blk w1 (w.heap.size + 1) 49 (zc Try.prog 49) := Blk.below hzx hb1 (by omega)
       clear hkx hzx hbx hb1
       have hcell := hk1.cell))
  clear m1
  go_upto_region 7 with (first | ((with_reducible apply l_alloc 79); (focus kernel_rfl); (try go_frame)) | fail)
  rw [szzS3]
  obtain ⟨w2, hw2⟩ : ∃ x : World, x = w1.alloc (.cells #[.int .u64 0, .int .u64 0, .int .u64 0] 79) := ⟨_, rfl⟩
  obtain ⟨gs, hgs⟩ : ∃ g, g = w1.heap.size := ⟨_, rfl⟩
  have J0 : Hid (Jz w cs (zc Try.prog 49) gs w2 0 0 0) := Lib.hid (by rw [hw2, hgs]; exact ⟨D1.out.alloc (by omega) _, hk1.alloc _, hz1.alloc _, Blk.new _ _ _, by omega⟩)
  rw [← hw2, ← hgs]
  have hgs2 : w.heap.size + 2 ≤ gs := by omega
  clear hw2 hgs hk1 hz1 hcell D1 Bx
  have hcell := J0.out.xb.cell
  have hZ1 : 1957 ≤ (zc Try.prog 49).size := Nat.le_of_eq szzState.symm
  have hZ2 : (zc Try.prog 49).size ≤ 1957 := Nat.le_of_eq szzState
  generalize zc Try.prog 49 = Z at *
  go_upto_region 8 with fail
  clear hcell
  have HSum : Hid (∀ p : Nat → Bool, 0 ≤ effTo (L 721) p nc ∧ effTo (L 721) p nc ≤ 2097152000000000) := Lib.hid fun p => by
    have := effTo_bound HEv.out p nc (Nat.le_refl _)
    omega
  go_loopw [28] (fun i wr => ∃ k : Nat, k ≤ nc ∧ i = .int .i64 k ∧ Hid (Jz w cs Z gs wr (effTo (L 721) (actB (L 721) (s / 4)) k) (effTo (L 721) (unsB (L 721) (L 987) (s / 4 - 1) 1) k) (effTo (L 721) (unsB (L 721) (L 988) (s / 4) 1) k))) (fun i _ => nc - (intOf i).toNat)
  case atStart => exact ⟨0, by omega, rfl, J0⟩
  case round =>
    obtain ⟨k, hk, rfl, hJ⟩ := hrel
    by_cases hlt : k < nc
    · obtain ⟨b, o, rfl, hbB, hr0, hl0⟩ := HSv.out.range hlt
      obtain ⟨bp, op, rfl, hbp, hcp⟩ := HSp.out.cells (by omega)
      obtain ⟨bc, oc, rfl, hbc, hcc⟩ := HSc.out.cells (by omega)
      obtain ⟨g83, g84, g81, g80, w83, w84, w80⟩ := HV.out k hlt
      obtain ⟨e0, e1⟩ := HEv.out k hlt
      obtain ⟨C, hC⟩ : ∃ C, C = ((L 721).drop (k * 86)).take 86 := ⟨_, rfl⟩
      replace hr0 : w.rangeAt b (o + k * 86) (((L 721).drop (k * 86)).take 86) := hr0
      replace hl0 : (((L 721).drop (k * 86)).take 86).length = 86 := hl0
      rw [← hC] at hr0 hl0
      have HC := Lib.hid hC
      have G : ∀ j, j < 86 → C[j]? = (L 721)[86 * k + j]? := fun j hj => by rw [hC, ← List.getElem?_toArray, chunk_get hj, Nat.mul_comm]
      clear hC
      have G83 : Hid (C.toArray[83]? = some (.int .u64 (lN (L 721) (86 * k + 83)))) := Lib.hid (by rw [List.getElem?_toArray, G 83 (by decide)]; exact g83)
      have G84 : Hid (C.toArray[84]? = some (.int .u64 (lN (L 721) (86 * k + 84)))) := Lib.hid (by rw [List.getElem?_toArray, G 84 (by decide)]; exact g84)
      have hold : ∀ w', Below w.heap.size w w' → ∀ p : Addr, p.block < B → w'.cell? p = w.cell? p := fun w' h p hp => h.cell (by omega)
      have CR : Hid (∀ w', Below w.heap.size w w' → w'.rangeAt b (o + k * 86) C) := Lib.hid fun w' h j v hv => (hold w' h ⟨b, _, none⟩ hbB).trans (hr0 j v hv)
      have C80 : Hid (∀ w', Below w.heap.size w w' → w'.cell? ⟨b, o + k * 86 + 80, none⟩ = some (.int .u64 (lN (L 721) (86 * k + 80)))) := Lib.hid fun w' h => CR.out w' h 80 _ (by rw [G 80 (by decide)]; exact g80)
      have C81 : Hid (∀ w', Below w.heap.size w w' → w'.cell? ⟨b, o + k * 86 + 81, none⟩ = some (.bool (lB (L 721) (86 * k + 81)))) := Lib.hid fun w' h => CR.out w' h 81 _ (by rw [G 81 (by decide)]; exact g81)
      have CP : Hid (∀ w', Below w.heap.size w w' → w'.cell? ⟨bp, op + k, none⟩ = some (.int .u8 (lN (L 987) k))) := Lib.hid fun w' h => (hold w' h ⟨bp, _, none⟩ hbp).trans (hcp _ _ (HFp.out k hlt).1)
      have CC : Hid (∀ w', Below w.heap.size w w' → w'.cell? ⟨bc, oc + k, none⟩ = some (.int .u8 (lN (L 988) k))) := Lib.hid fun w' h => (hold w' h ⟨bc, _, none⟩ hbc).trans (hcc _ _ (HFc.out k hlt).1)
      have HLn := Lib.hid hl0
      have HA0 : Hid (actB (L 721) (s / 4) k = decide (lN (L 721) (86 * k + 83) ≤ s / 4 ∧ s / 4 < lN (L 721) (86 * k + 84))) := Lib.hid rfl
      have HA1 : Hid (actB (L 721) (s / 4 - 1) k = decide (lN (L 721) (86 * k + 83) ≤ s / 4 - 1 ∧ s / 4 - 1 < lN (L 721) (86 * k + 84))) := Lib.hid rfl
      have HB1 : Hid ((bits BinOp.and IntKind.u8 (lN (L 987) k / 2) 1 != 0) = flB (L 987) 1 k) := Lib.hid (bit_ne (HFp.out k hlt).2 (by omega))
      have HB2 : Hid ((bits BinOp.and IntKind.u8 (lN (L 988) k / 2) 1 != 0) = flB (L 988) 1 k) := Lib.hid (bit_ne (HFc.out k hlt).2 (by omega))
      obtain ⟨x0, x1⟩ := (HFp.out k hlt).2
      obtain ⟨y0, y1⟩ := (HFc.out k hlt).2
      have T0 : Hid (effTo (L 721) (actB (L 721) (s / 4)) (k + 1) = if actB (L 721) (s / 4) k = true then effTo (L 721) (actB (L 721) (s / 4)) k + lN (L 721) (86 * k + 80) else effTo (L 721) (actB (L 721) (s / 4)) k) := Lib.hid rfl
      have T1 : Hid (effTo (L 721) (unsB (L 721) (L 987) (s / 4 - 1) 1) (k + 1) = if (actB (L 721) (s / 4 - 1) k && (!lB (L 721) (86 * k + 81) && flB (L 987) 1 k)) = true then effTo (L 721) (unsB (L 721) (L 987) (s / 4 - 1) 1) k + lN (L 721) (86 * k + 80) else effTo (L 721) (unsB (L 721) (L 987) (s / 4 - 1) 1) k) := Lib.hid rfl
      have T2 : Hid (effTo (L 721) (unsB (L 721) (L 988) (s / 4) 1) (k + 1) = if (actB (L 721) (s / 4) k && (!lB (L 721) (86 * k + 81) && flB (L 988) 1 k)) = true then effTo (L 721) (unsB (L 721) (L 988) (s / 4) 1) k + lN (L 721) (86 * k + 80) else effTo (L 721) (unsB (L 721) (L 988) (s / 4) 1) k) := Lib.hid rfl
      have bd : ∀ p : Nat → Bool, 0 ≤ effTo (L 721) p k ∧ effTo (L 721) p k ≤ 2097152000000000 := fun p => by
        have := effTo_bound HEv.out p k hk
        omega
      obtain ⟨p0, p1⟩ := bd (actB (L 721) (s / 4))
      obtain ⟨p2, p3⟩ := bd (unsB (L 721) (L 987) (s / 4 - 1) 1)
      obtain ⟨p4, p5⟩ := bd (unsB (L 721) (L 988) (s / 4) 1)
      clear hr0 hl0 hcp hcc g83 g84 g81 g80 w83 w84 w80 G hold bd
      generalize effTo (L 721) (actB (L 721) (s / 4)) k = S0 at *
      generalize effTo (L 721) (unsB (L 721) (L 987) (s / 4 - 1) 1) k = S1 at *
      generalize effTo (L 721) (unsB (L 721) (L 988) (s / 4) 1) k = S2 at *
      generalize actB (L 721) (s / 4) k = A0 at *
      generalize actB (L 721) (s / 4 - 1) k = A1 at *
      generalize lN (L 721) (86 * k + 80) = ev at *
      generalize lN (L 721) (86 * k + 83) = v83 at *
      generalize lN (L 721) (86 * k + 84) = v84 at *
      generalize lB (L 721) (86 * k + 81) = sb at *
      generalize lN (L 987) k = xp at *
      generalize lN (L 988) k = xc at *
      generalize flB (L 987) 1 k = F1 at *
      generalize flB (L 988) 1 k = F2 at *
      have W0 : Hid (IntKind.u64.wrap (S0 + ev) = S0 + ev) := Lib.hid (IntWalk.u64_in _ (by omega))
      have W1 : Hid (IntKind.u64.wrap (S1 + ev) = S1 + ev) := Lib.hid (IntWalk.u64_in _ (by omega))
      have W2 : Hid (IntKind.u64.wrap (S2 + ev) = S2 + ev) := Lib.hid (IntWalk.u64_in _ (by omega))
      have hcell := hJ.out.xb.cell
      go_upto_if 39 with (first
        | ((with_reducible apply l_loadr 82); (focus rfl); (focus (repeat (first | exact (CR.out _ hJ.out.bel) | assumption | apply World.rangeAt_alloc))); (focus exact Try.underlying82); (focus rfl); (focus exact szVal); (focus exact HLn.out); (try go_frame))
        | (go_at_call 31; refine (active_any C.toArray (s / 4) _ _ G83.out G84.out _).mono ?_
           rintro e w3 ⟨rfl, hb3⟩
           rw [← HA0.out]
           have hJ3 := Lib.hid (hJ.out.below hb3)
           clear hb3 hcell))
      go_cut [] (fun wq => Hid (Jz w cs Z gs wq (if A0 = true then S0 + ev else S0) S1 S2))
      case first =>
        cases A0
        case false =>
          go_wp2_with fail
          go_meet
          exact hJ3
        case true =>
          have hs0 := hJ3.out.sb.cell
          have hfz := hJ3.out.sb.frozen
          have c80 := C80.out _ hJ3.out.bel
          go_upto_region 12 with fail
          refine add12 (hs0 0) (hfz 0) c80 W0.out ?_
          intro v40 v41 v42 v43 v44 v45 v46 v47
          dsimp only
          go_wp2_with fail
          go_meet
          exact Lib.hid (hJ3.out.drew.set0 _)
      case rest =>
      rename World => w4
      have hJ4 := hcut
      clear hcut hJ3
      obtain ⟨S0', hS0'⟩ : ∃ x, x = if A0 = true then S0 + ev else S0 := ⟨_, rfl⟩
      rw [← hS0'] at hJ4 T0
      clear hS0'
      have c81 := C81.out _ hJ4.out.bel
      go_upto_if 51 with fail
      clear c81
      cases sb
      case true =>
        have e1' : Hid (effTo (L 721) (unsB (L 721) (L 987) (s / 4 - 1) 1) (k + 1) = S1) := Lib.hid (by rw [T1.out, if_neg (by simp)])
        have e2' : Hid (effTo (L 721) (unsB (L 721) (L 988) (s / 4) 1) (k + 1) = S2) := Lib.hid (by rw [T2.out, if_neg (by simp)])
        go_wp2_with fail
        go_roundw
        case rel => first
          | exact ⟨k + 1, by omega, by go_num, by rw [T0.out, e1'.out, e2'.out]; exact hJ4⟩
          | ((repeat apply Exists.intro); exact ⟨⟨k + 1, by omega, by go_num, by rw [T0.out, e1'.out, e2'.out]; exact hJ4⟩, rfl⟩)
        case measure => simp [intOf]; omega
      case false =>
      go_upto_region 14 with fail
      go_cut [67] (fun t wq => t = .bool (A1 && F1) ∧ Hid (Jz w cs Z gs wq S0' S1 S2))
      case first =>
        have hcell := hJ4.out.xb.cell
        cases A1
        case false =>
          go_wp2_with (first
            | ((with_reducible apply l_loadr 82); (focus rfl); (focus (repeat (first | exact (CR.out _ hJ4.out.bel) | assumption | apply World.rangeAt_alloc))); (focus exact Try.underlying82); (focus rfl); (focus exact szVal); (focus exact HLn.out); (try go_frame))
            | (go_at_call 31; refine (active_any C.toArray (s / 4 - 1) _ _ G83.out G84.out _).mono ?_
               rintro e w5 ⟨rfl, hb3⟩
               rw [← HA1.out]
               have hJ5 := Lib.hid (hJ4.out.below hb3)
               clear hb3 hcell))
          go_meet
          exact ⟨rfl, hJ5⟩
        case true =>
          have hbit := HB1.out
          cases F1 <;> (
            go_wp2_with (first
              | ((with_reducible apply l_loadr 82); (focus rfl); (focus (repeat (first | exact (CR.out _ hJ4.out.bel) | assumption | apply World.rangeAt_alloc))); (focus exact Try.underlying82); (focus rfl); (focus exact szVal); (focus exact HLn.out); (try go_frame))
              | (go_at_call 31; refine (active_any C.toArray (s / 4 - 1) _ _ G83.out G84.out _).mono ?_
                 rintro e w5 ⟨rfl, hb3⟩
                 rw [← HA1.out]
                 have hJ5 := Lib.hid (hJ4.out.below hb3)
                 clear hb3 hcell
                 have hcell := hJ5.out.xb.cell
                 have cP := CP.out _ hJ5.out.bel))
            go_meet
            exact ⟨rfl, hJ5⟩)
      case rest =>
      rename World => w5
      obtain ⟨rfl, hJ5⟩ := hcut
      clear hJ4
      obtain ⟨q, hq⟩ : ∃ q, q = (A1 && F1) := ⟨_, rfl⟩
      have T1' : Hid (effTo (L 721) (unsB (L 721) (L 987) (s / 4 - 1) 1) (k + 1) = if q = true then S1 + ev else S1) := Lib.hid (by rw [T1.out, hq]; simp)
      rw [← hq]
      clear hq T1
      go_upto_if 67 with fail
      go_cut [] (fun wq => Hid (Jz w cs Z gs wq S0' (if q = true then S1 + ev else S1) S2))
      case first =>
        cases q
        case false =>
          go_wp2_with fail
          go_meet
          exact hJ5
        case true =>
          have hs0 := hJ5.out.sb.cell
          have hfz := hJ5.out.sb.frozen
          have c80 := C80.out _ hJ5.out.bel
          go_upto_region 15 with fail
          refine add15 (hs0 1) (hfz 1) c80 W1.out ?_
          intro v68 v69 v70 v71 v72 v73 v74 v75
          dsimp only
          go_wp2_with fail
          go_meet
          exact Lib.hid (hJ5.out.drew.set1 _)
      case rest =>
      rename World => w6
      have hJ6 := hcut
      clear hcut hJ5
      obtain ⟨S1', hS1'⟩ : ∃ x, x = if q = true then S1 + ev else S1 := ⟨_, rfl⟩
      rw [← hS1'] at hJ6 T1'
      clear hS1'
      go_upto_region 16 with fail
      go_cut [90] (fun t wq => t = .bool (A0 && F2) ∧ Hid (Jz w cs Z gs wq S0' S1' S2))
      case first =>
        have hcell := hJ6.out.xb.cell
        cases A0
        case false =>
          go_wp2_with (first
            | ((with_reducible apply l_loadr 82); (focus rfl); (focus (repeat (first | exact (CR.out _ hJ6.out.bel) | assumption | apply World.rangeAt_alloc))); (focus exact Try.underlying82); (focus rfl); (focus exact szVal); (focus exact HLn.out); (try go_frame))
            | (go_at_call 31; refine (active_any C.toArray (s / 4) _ _ G83.out G84.out _).mono ?_
               rintro e w7 ⟨rfl, hb3⟩
               rw [← HA0.out]
               have hJ7 := Lib.hid (hJ6.out.below hb3)
               clear hb3 hcell))
          go_meet
          exact ⟨rfl, hJ7⟩
        case true =>
          have hbit := HB2.out
          cases F2 <;> (
            go_wp2_with (first
              | ((with_reducible apply l_loadr 82); (focus rfl); (focus (repeat (first | exact (CR.out _ hJ6.out.bel) | assumption | apply World.rangeAt_alloc))); (focus exact Try.underlying82); (focus rfl); (focus exact szVal); (focus exact HLn.out); (try go_frame))
              | (go_at_call 31; refine (active_any C.toArray (s / 4) _ _ G83.out G84.out _).mono ?_
                 rintro e w7 ⟨rfl, hb3⟩
                 rw [← HA0.out]
                 have hJ7 := Lib.hid (hJ6.out.below hb3)
                 clear hb3 hcell
                 have hcell := hJ7.out.xb.cell
                 have cC := CC.out _ hJ7.out.bel))
            go_meet
            exact ⟨rfl, hJ7⟩)
      case rest =>
      rename World => w7
      obtain ⟨rfl, hJ7⟩ := hcut
      clear hJ6
      obtain ⟨q2, hq2⟩ : ∃ q, q = (A0 && F2) := ⟨_, rfl⟩
      have T2' : Hid (effTo (L 721) (unsB (L 721) (L 988) (s / 4) 1) (k + 1) = if q2 = true then S2 + ev else S2) := Lib.hid (by rw [T2.out, hq2]; simp)
      rw [← hq2]
      clear hq2 T2
      go_upto_if 90 with fail
      cases q2
      case false =>
        go_wp2_with fail
        go_roundw
        case rel => first
          | exact ⟨k + 1, by omega, by go_num, by rw [T0.out, T1'.out, T2'.out]; exact hJ7⟩
          | ((repeat apply Exists.intro); exact ⟨⟨k + 1, by omega, by go_num, by rw [T0.out, T1'.out, T2'.out]; exact hJ7⟩, rfl⟩)
        case measure => simp [intOf]; omega
      case true =>
        have hs0 := hJ7.out.sb.cell
        have hfz := hJ7.out.sb.frozen
        have c80 := C80.out _ hJ7.out.bel
        go_upto_region 17 with fail
        refine add17 (hs0 2) (hfz 2) c80 W2.out ?_
        intro v91 v92 v93 v94 v95 v96 v97 v98
        dsimp only
        have hJ8 : Hid (Jz w cs Z gs (w7.drew.setCell ⟨gs, 2, none⟩ (.int .u64 (S2 + ev))) S0' S1' (S2 + ev)) := Lib.hid (hJ7.out.drew.set2 _)
        clear hs0 hfz c80
        go_wp2_with fail
        go_roundw
        case rel => first
          | exact ⟨k + 1, by omega, by go_num, by rw [T0.out, T1'.out, T2'.out]; exact hJ8⟩
          | ((repeat apply Exists.intro); exact ⟨⟨k + 1, by omega, by go_num, by rw [T0.out, T1'.out, T2'.out]; exact hJ8⟩, rfl⟩)
        case measure => simp [intOf]; omega
    · obtain rfl : nc = k := by omega
      obtain ⟨p0, p1⟩ := HSum.out (actB (L 721) (s / 4))
      obtain ⟨p2, p3⟩ := HSum.out (unsB (L 721) (L 987) (s / 4 - 1) 1)
      obtain ⟨p4, p5⟩ := HSum.out (unsB (L 721) (L 988) (s / 4) 1)
      obtain ⟨S0, hS0⟩ : ∃ S, S = effTo (L 721) (actB (L 721) (s / 4)) nc := ⟨_, rfl⟩
      obtain ⟨S1, hS1⟩ : ∃ S, S = effTo (L 721) (unsB (L 721) (L 987) (s / 4 - 1) 1) nc := ⟨_, rfl⟩
      obtain ⟨S2, hS2⟩ : ∃ S, S = effTo (L 721) (unsB (L 721) (L 988) (s / 4) 1) nc := ⟨_, rfl⟩
      rw [← hS0] at hJ p0 p1
      rw [← hS1] at hJ p2 p3
      rw [← hS2] at hJ p4 p5
      have HS := Lib.hid (And.intro hS0.symm (And.intro hS1.symm hS2.symm))
      clear hS0 hS1 hS2
      have hs0 := hJ.out.sb.cell
      have hkx := hJ.out.xb
      have hgr : gs < wr.heap.size := hJ.out.sb.lt
      have M0 := Lib.hid (max1_bound p0 p1); have M1 := Lib.hid (max1_bound p2 p3); have M2 := Lib.hid (max1_bound p4 p5)
      go_wp2_with (first
        | ((with_reducible apply l_loadw 49); (focus rfl); (focus (repeat (first | assumption | (apply Blk.newAt; (focus (simp; done))) | apply Blk.alloc | apply Blk.setRow | apply Blk.drewN | apply Blk.drew | (refine Blk.setRow_other ?_ ?_ _; focus (first | omega | (simp; omega)))))); (focus exact Try.underlying49); (focus rfl); (focus exact szState); (focus (first | exact omega | (first | omega | (simp; done) | (simp; omega) | assumption))); (try go_frame))
        | (go_at_call 10
           refine (weigh_ok cs L w.heap.size _ (by omega) ((H.out.more hB).below hJ.out.bel) Rp.out (by rw [Hs.out]; exact Hm.out) (max1 S0) (max1 S1) (max1 S2) (by have := M0.out; omega) (by have := M0.out; omega) (by have := M1.out; omega) (by have := M1.out; omega) (by have := M2.out; omega) (by have := M2.out; omega)).mono ?_
           rintro e w9 ⟨cu, rfl, hcu, hst, how, hb9⟩
           have D9 := Lib.hid (hJ.out.bel.trans (hb9.mono (by omega)))
           have hz9 := hJ.out.zb.below hb9 (by omega)
           have hwf := hst.wf.weigh (max1 S0) (max1 S1) (max1 S2)
           have hg9 := hb9.size
           have F1 := Lib.hid (And.intro hcu (And.intro hst how))
           have F2 := Lib.hid hwf.ones; have F3 := Lib.hid hwf.size
           clear hcu hst how hb9 hwf hkx hs0
           obtain ⟨Y, hY⟩ : ∃ Y, Y = weighC cu (max1 S0) (max1 S1) (max1 S2) := ⟨_, rfl⟩
           rw [← hY] at F2 F3
           rw [← hY]
           generalize (if S0 < 1000000000 then (1000000000 : Int) else S0) = m0
           generalize (if S1 < 1000000000 then (1000000000 : Int) else S1) = m1
           generalize (if S2 < 1000000000 then (1000000000 : Int) else S2) = m2
           have HY := Lib.hid hY
           clear hY)
        | ((with_reducible apply l_storew 49); (focus rfl); (focus rfl); (focus (repeat (first | assumption | (apply Blk.newAt; (focus (simp; done))) | apply Blk.alloc | apply Blk.setRow | apply Blk.drewN | apply Blk.drew | (refine Blk.setRow_other ?_ ?_ _; focus (first | omega | (simp; omega)))))); (focus exact szState); (focus (first | exact F3.out | (first | omega | (simp; done) | (simp; omega) | assumption))); (focus (first | omega | (simp; done) | (simp; omega) | assumption)); (focus exact F2.out); (focus (repeat (first | (apply setRow_eq_at; (focus (simp; done))) | (refine setRow_eq_past ?_ ?_; (focus (first | (simp; done) | omega | (simp; omega)))) | apply setRow_eq_drewN | apply setRow_eq_drew | rfl))); (try go_frame)))
      ((with_reducible apply l_ret2); (focus rfl); (focus rfl); (focus rfl); (focus (repeat (first | assumption | (apply Blk.newAt; (focus (simp; done))) | apply Blk.alloc | apply Blk.setRow | apply Blk.drewN | apply Blk.drew | (refine Blk.setRow_other ?_ ?_ _; focus (first | omega | (simp; omega)))))); (focus exact Try.underlying49); (focus rfl); (focus exact szState); (focus (first | exact F3.out | (first | omega | (simp; done) | (simp; omega) | assumption))); (focus rfl))
      exact ⟨cu, by rw [HS.out.1, HS.out.2.1, HS.out.2.2, ← HY.out]; rfl, F1.out.1, (F1.out.2.2.keep fun b hb1 hb2 => setRow_other _ _ _ _ (by omega)).isSt F1.out.2.1.wf F1.out.2.1, below_setRow D9.out (by omega) _⟩

set_option maxHeartbeats 4000000 in
theorem justify_low (cs : Array Value) (L : Nat → List Value) (B : Nat) (w : World) (hB : B ≤ w.heap.size) (h : IsSt w B cs L) (hr : RightP cs L) (hm : cN cs 33 % 4 = 3) (he : cN cs 33 / 4 ≤ 1) :
    Calls Try.prog 14 #[.agg cs] w fun e w' => ∃ cs', e = .returned (.tuple #[.agg cs', .int .i64 0]) ∧ (∀ i, ¬ isSO i → cs'[i]? = cs[i]?) ∧ IsSt w' w'.heap.size cs' L ∧ Below w.heap.size w w' := by
  obtain ⟨h33, w33a, w33b⟩ := h.wf.u64 33 rfl
  have H := Lib.hid h
  have R := Lib.hid (rightB_yes hr)
  have hsz1 : 1957 ≤ cs.size := Nat.le_of_eq h.wf.size.symm
  have hsz2 : cs.size ≤ 1957 := Nat.le_of_eq h.wf.size
  have m1 : (cN cs 33 % 4 != 3) = false := by rw [hm]; rfl
  clear h hr hm
  generalize cN cs 33 = s at *
  go_enter Try.func14, Try.ntmps14
  go_upto_region 1 with ((with_reducible apply l_alloc 49); (focus kernel_rfl); (try go_frame))
  simp only [World.size_alloc]
  obtain ⟨wx, hwx⟩ : ∃ wx : World, wx = (w.alloc (.cells cs 49)).alloc (.cells (zc Try.prog 49) 49) := ⟨_, rfl⟩
  have hbx : Below w.heap.size w wx := by rw [hwx]; exact (by (repeat (first | exact Below.refl _ _ | apply Below.drew | apply below_drewN | (refine Below.alloc ?_ ?_ _) | (refine below_setRow ?_ ?_ _) | (refine Below.setCell ?_ ?_ _) | (refine Below.trans ?_ (Below.mono (by assumption) ?_)) | omega | (focus (simp; done)) | (focus (simp; omega)))))
  have hkx : Blk wx w.heap.size 49 cs := by rw [hwx]; exact (by (repeat (first | assumption | (apply Blk.newAt; (focus (simp; done))) | apply Blk.alloc | apply Blk.setRow | apply Blk.drewN | apply Blk.drew | (refine Blk.setRow_other ?_ ?_ _; focus (first | omega | (simp; omega))))))
  have hzx : Blk wx (w.heap.size + 1) 49 (zc Try.prog 49) := by rw [hwx]; exact (by (repeat (first | assumption | (apply Blk.newAt; (focus (simp; done))) | apply Blk.alloc | apply Blk.setRow | apply Blk.drewN | apply Blk.drew | (refine Blk.setRow_other ?_ ?_ _; focus (first | omega | (simp; omega))))))
  have hgx : w.heap.size + 2 ≤ wx.heap.size := by rw [hwx]; simp
  rw [← hwx]
  clear hwx
  have Bx := Lib.hid hbx
  have hcell := hkx.cell
  go_upto_region 2 with fail
  clear hcell
  go_upto_region 5 with (first
    | ((with_reducible apply l_loadw 49); (focus rfl); (focus (repeat (first | assumption | (apply Blk.newAt; (focus (simp; done))) | apply Blk.alloc | apply Blk.setRow | apply Blk.drewN | apply Blk.drew | (refine Blk.setRow_other ?_ ?_ _; focus (first | omega | (simp; omega)))))); (focus exact Try.underlying49); (focus rfl); (focus exact szState); (focus (first | exact omega | (first | omega | (simp; done) | (simp; omega) | assumption))); (try go_frame))
    | (go_at_call 24; refine (right_any cs L w.heap.size _ (by omega) ?_).mono ?_
       focus (exact (H.out.more hB).below Bx.out)
       rintro e w1 ⟨rfl, hb1⟩
       rw [R.out]
       have hg1 : wx.heap.size ≤ w1.heap.size := hb1.size
       have D1 := Lib.hid (Below.trans hbx (Below.mono hb1 (by omega)))
       have hk1 : Blk w1 w.heap.size 49 cs := Blk.below hkx hb1 (by omega)
       have hz1 : Blk w1 (w.heap.size + 1) 49 (zc Try.prog 49) := Blk.below hzx hb1 (by omega)
       clear hkx hzx hbx hb1
       have hcell := hk1.cell))
  clear hcell
  go_wp2_with (first
    | ((with_reducible apply l_loadw 49); (focus rfl); (focus (repeat (first | assumption | (apply Blk.newAt; (focus (simp; done))) | apply Blk.alloc | apply Blk.setRow | apply Blk.drewN | apply Blk.drew | (refine Blk.setRow_other ?_ ?_ _; focus (first | omega | (simp; omega)))))); (focus exact Try.underlying49); (focus rfl); (focus exact szState); (focus (first | exact omega | (first | omega | (simp; done) | (simp; omega) | assumption))); (try go_frame))
    | (go_at_call 25; refine (clone_any cs L w.heap.size _ (by omega) ((H.out.more hB).below D1.out)).mono ?_
       rintro e w3 ⟨cu, rfl, hcu, hst, how, hb3⟩
       have D3 := Lib.hid (D1.out.trans (hb3.mono (by omega)))
       have hz3 := Blk.below hz1 hb3 (by omega)
       have HU := Lib.hid (And.intro hcu (And.intro hst how))
       have hu1 : 1957 ≤ cu.size := Nat.le_of_eq hst.wf.size.symm
       have hu2 : cu.size ≤ 1957 := Nat.le_of_eq hst.wf.size
       have HO := Lib.hid hst.wf.ones
       have hg3 := hb3.size
       clear hk1 hz1 hb3 hcu hst how)
    | ((with_reducible apply l_storew 49); (focus rfl); (focus rfl); (focus (repeat (first | assumption | (apply Blk.newAt; (focus (simp; done))) | apply Blk.alloc | apply Blk.setRow | apply Blk.drewN | apply Blk.drew | (refine Blk.setRow_other ?_ ?_ _; focus (first | omega | (simp; omega)))))); (focus exact szState); (focus (first | exact omega | (first | omega | (simp; done) | (simp; omega) | assumption))); (focus (first | omega | (simp; done) | (simp; omega) | assumption)); (focus exact HO.out); (focus (repeat (first | (apply setRow_eq_at; (focus (simp; done))) | (refine setRow_eq_past ?_ ?_; (focus (first | (simp; done) | omega | (simp; omega)))) | apply setRow_eq_drewN | apply setRow_eq_drew | rfl))); (try go_frame)))
  ((with_reducible apply l_ret2); (focus rfl); (focus rfl); (focus rfl); (focus (repeat (first | assumption | (apply Blk.newAt; (focus (simp; done))) | apply Blk.alloc | apply Blk.setRow | apply Blk.drewN | apply Blk.drew | (refine Blk.setRow_other ?_ ?_ _; focus (first | omega | (simp; omega)))))); (focus exact Try.underlying49); (focus rfl); (focus exact szState); (focus (first | exact omega | (first | omega | (simp; done) | (simp; omega) | assumption))); (focus rfl))
  exact ⟨cu, rfl, HU.out.1, (HU.out.2.2.keep fun b hb1 hb2 => setRow_other _ _ _ _ (by omega)).isSt HU.out.2.1.wf HU.out.2.1, below_setRow D3.out (by omega) _⟩
end Go.Proofs.Ytikbkcidalippaa
