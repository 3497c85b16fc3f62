/-
  pharosref22.Unslashed: who has a flag, walked.
-/
import Derived.Test.YtikbkcidalippaaUns
import Derived.Test.YtikbkcidalippaaRRight
import Derived.Test.YtikbkcidalippaaReg
namespace Go.Proofs.Ytikbkcidalippaa
open Go.RowKit
attribute [local irreducible] Hid Blk
set_option maxRecDepth 100000

set_option maxHeartbeats 4000000 in
theorem runs_now (cs : Array Value) (L : Nat → List Value) (B : Nat) (w : World) (hB : B ≤ w.heap.size) (h : IsSt w B cs L) (hr : RightP cs L) (f : Nat) (hf : f < 3) (q : Int) (hep : W64 q) (he : q = cN cs 33 / 4) :
    Calls Try.prog 17 #[.agg cs, .int .i64 f, .int .u64 q] w fun e w' => ∃ v, e = .returned (.tuple #[v, .int .i64 0]) ∧
      w'.ownsRow w.heap.size 22 1 v (unsL (L 721) (L 988) q f (cnt L 721)).length (nums (unsL (L 721) (L 988) q f (cnt L 721))) ∧ Below w.heap.size w w' := by
  obtain ⟨av, nv, cv, h721, sv⟩ := h.sl 721 (by decide)
  obtain ⟨al, nl, cl, hls, sl⟩ := h.sl 988 (by decide)
  obtain ⟨al', nl', cl', hls', -⟩ := h.sl 987 (by decide)
  have hl : (L 721).length = nv * 86 := sv.len
  have hc : cnt L 721 = nv := by unfold cnt; rw [hl]; exact Nat.mul_div_cancel _ (by decide)
  have hll : (L 988).length = nl := by have := sl.len; simpa [esz] using this
  have hlc : nl = nv := by
    have : cnt L 988 = cnt L 721 := hr.cur
    rw [hc] at this
    rw [← this]; unfold cnt; rw [hll]; simp [esz]
  subst hlc
  have hnv : nl ≤ 65536 := by have := hr.vals; omega
  have HV := Lib.hid (fun k (hk : k < nl) => val_of h (k := k) (by rw [hc]; exact hk))
  have HF := Lib.hid (fun k (hk : k < nl) => h.eN8 988 k (by decide) rfl (by omega))
  obtain ⟨h33, w33a, w33b⟩ := h.wf.u64 33 rfl
  have hs1 := hr.slot
  obtain ⟨z0, hz⟩ : ∃ z0, ((Try.prog.info? 22).map (fun i => (i.zero, i.size, i.bytes)) = some (some z0, 1, 8)) ∧ z0.cells.size = 1 := ⟨((Try.prog.info? 22).bind (·.zero)).getD undef, by kernel_rfl, by kernel_rfl⟩
  obtain ⟨i0, hi, hz0, hz1, hz2⟩ := info_parts hz.1
  have HI := Lib.hid (And.intro hi (And.intro hz0 (And.intro hz1 hz2)))
  have HZ := Lib.hid hz.2
  have HSv := Lib.hid sv
  have HSl := Lib.hid sl
  have H := Lib.hid h
  have HWf := Lib.hid h.wf
  have R := Lib.hid (rightB_yes hr)
  have HC := Lib.hid hc
  have hsz1 : 1957 ≤ cs.size := Nat.le_of_eq h.wf.size.symm
  have hsz2 : cs.size ≤ 1957 := Nat.le_of_eq h.wf.size
  have HEL := Lib.hid (h.el 721 (by decide))
  obtain ⟨_, _⟩ := hep
  rw [hc]
  clear hi hz0 hz1 hz2 hz sv sl h hr hc hl hll
  have f1 : decide ((f : Int) < 0) = false := decide_eq_false (by omega)
  have f2 : decide (2 < (f : Int)) = false := decide_eq_false (by omega)
  generalize hs : cN cs 33 = s at *
  have HS33 := Lib.hid hs
  clear hs
  have m1 : (q != s / 4) = false := by rw [he]; exact bne_self_eq_false _
  have m2 : (q == s / 4) = true := by rw [he]; exact beq_self_eq_true _
  clear he
  go_enter Try.func17, Try.ntmps17
  go_upto_region 1 with fail
  obtain ⟨wx, hwx⟩ : ∃ wx : World, wx = w.alloc (.cells cs 49) := ⟨_, rfl⟩
  have hbx : Below w.heap.size w wx := by rw [hwx]; exact (by (repeat (first | exact Below.refl _ _ | apply Below.drew | apply below_drewN | (refine Below.alloc ?_ ?_ _) | (refine below_setRow ?_ ?_ _) | (refine Below.setCell ?_ ?_ _) | (refine Below.trans ?_ (Below.mono (by assumption) ?_)) | omega | (focus (simp; done)) | (focus (simp; omega)))))
  have hk : Blk wx w.heap.size 49 cs := by rw [hwx]; exact (by (repeat (first | assumption | (apply Blk.newAt; (focus (simp; done))) | apply Blk.alloc | apply Blk.setRow | apply Blk.drewN | apply Blk.drew | (refine Blk.setRow_other ?_ ?_ _; focus (first | omega | (simp; omega))))))
  rw [← hwx]
  clear hwx
  have hg := hk.lt
  have D := Lib.hid hbx
  clear hbx
  go_upto_region 3 with (first
    | ((with_reducible apply l_loadw 49); (focus rfl); (focus (repeat (first | assumption | (apply Blk.newAt; (focus (simp; done))) | apply Blk.alloc | apply Blk.setRow | apply Blk.drewN | apply Blk.drew | (refine Blk.setRow_other ?_ ?_ _; focus (first | omega | (simp; omega)))))); (focus exact Try.underlying49); (focus rfl); (focus exact szState); (focus (first | exact omega | (first | omega | (simp; done) | (simp; omega) | assumption))); (try go_frame))
    | ((with_reducible apply o_loadw 49); (focus rfl); (focus (repeat (first | assumption | (apply Blk.newAt; (focus (simp; done))) | apply Blk.alloc | apply Blk.setRow | apply Blk.drewN | apply Blk.drew | (refine Blk.setRow_other ?_ ?_ _; focus (first | omega | (simp; omega)))))); (focus exact Try.underlying49); (focus rfl); (focus exact szState); (focus (first | omega | (simp; done) | (simp; omega) | assumption)); (try simp only [Act.put, List.setIfInBounds_toArray, List.set_cons_zero, List.set_cons_succ]))
    | (go_at_call 33; refine (rright_any cs L w.heap.size _ (by omega) ?_).mono ?_
       focus (exact (H.out.more hB).below D.out)
       rintro e w1 ⟨rfl, hb1⟩
       rw [R.out]
       have hk2 := Blk.below hk hb1 (by omega)
       have D2 := Lib.hid (D.out.trans (hb1.mono (by omega)))
       have hg2 := hk2.lt
       clear hk hb1 D hg
       have hk := hk2
       have D := D2
       have hg := hg2
       clear hk2 D2 hg2)
    | (go_at_call 20; refine (repoch_any cs HWf.out _).mono ?_
       rintro e w1 ⟨rfl, hb1⟩
       rw [HS33.out]
       have hk2 := Blk.below hk hb1 (by omega)
       have D2 := Lib.hid (D.out.trans (hb1.mono (by omega)))
       have hg2 := hk2.lt
       clear hk hb1 D hg
       have hk := hk2
       have D := D2
       have hg := hg2
       clear hk2 D2 hg2)
    | (go_at_call 21; refine (rbefore_any cs HWf.out _).mono ?_
       rintro e w1 ⟨rfl, hb1⟩
       rw [HS33.out]
       have hk2 := Blk.below hk hb1 (by omega)
       have D2 := Lib.hid (D.out.trans (hb1.mono (by omega)))
       have hg2 := hk2.lt
       clear hk hb1 D hg
       have hk := hk2
       have D := D2
       have hg := hg2
       clear hk2 D2 hg2))
  have hcell := hk.cell
  go_upto_region 4 with fail
  clear hcell
  go_upto_region 5 with (first
    | ((with_reducible apply l_loadw 49); (focus rfl); (focus (repeat (first | assumption | (apply Blk.newAt; (focus (simp; done))) | apply Blk.alloc | apply Blk.setRow | apply Blk.drewN | apply Blk.drew | (refine Blk.setRow_other ?_ ?_ _; focus (first | omega | (simp; omega)))))); (focus exact Try.underlying49); (focus rfl); (focus exact szState); (focus (first | exact omega | (first | omega | (simp; done) | (simp; omega) | assumption))); (try go_frame))
    | ((with_reducible apply o_loadw 49); (focus rfl); (focus (repeat (first | assumption | (apply Blk.newAt; (focus (simp; done))) | apply Blk.alloc | apply Blk.setRow | apply Blk.drewN | apply Blk.drew | (refine Blk.setRow_other ?_ ?_ _; focus (first | omega | (simp; omega)))))); (focus exact Try.underlying49); (focus rfl); (focus exact szState); (focus (first | omega | (simp; done) | (simp; omega) | assumption)); (try simp only [Act.put, List.setIfInBounds_toArray, List.set_cons_zero, List.set_cons_succ]))
    | (go_at_call 33; refine (rright_any cs L w.heap.size _ (by omega) ?_).mono ?_
       focus (exact (H.out.more hB).below D.out)
       rintro e w1 ⟨rfl, hb1⟩
       rw [R.out]
       have hk2 := Blk.below hk hb1 (by omega)
       have D2 := Lib.hid (D.out.trans (hb1.mono (by omega)))
       have hg2 := hk2.lt
       clear hk hb1 D hg
       have hk := hk2
       have D := D2
       have hg := hg2
       clear hk2 D2 hg2)
    | (go_at_call 20; refine (repoch_any cs HWf.out _).mono ?_
       rintro e w1 ⟨rfl, hb1⟩
       rw [HS33.out]
       have hk2 := Blk.below hk hb1 (by omega)
       have D2 := Lib.hid (D.out.trans (hb1.mono (by omega)))
       have hg2 := hk2.lt
       clear hk hb1 D hg
       have hk := hk2
       have D := D2
       have hg := hg2
       clear hk2 D2 hg2)
    | (go_at_call 21; refine (rbefore_any cs HWf.out _).mono ?_
       rintro e w1 ⟨rfl, hb1⟩
       rw [HS33.out]
       have hk2 := Blk.below hk hb1 (by omega)
       have D2 := Lib.hid (D.out.trans (hb1.mono (by omega)))
       have hg2 := hk2.lt
       clear hk hb1 D hg
       have hk := hk2
       have D := D2
       have hg := hg2
       clear hk2 D2 hg2))
  have hcell := hk.cell
  go_wp2
  clear hcell
  have HKx := Lib.hid hk
  clear hk
  go_loopw [9, 10] (fun v i wr => ∃ k : Nat, k ≤ nl ∧ i = .int .i64 k ∧ Hid (wr.ownsRow (w.heap.size + 1) 22 1 v (unsL (L 721) (L 988) q f k).length (nums (unsL (L 721) (L 988) q f k))) ∧ Hid (Below w.heap.size w wr) ∧ Hid (Blk wr w.heap.size 49 cs) ∧ w.heap.size < wr.heap.size) (fun _ i _ => nl - (intOf i).toNat)
  case atStart => exact ⟨0, by omega, rfl, Lib.hid (World.ownsRow_nil _ _ _ _), D, HKx, hg⟩
  case round =>
    clear HKx D
    obtain ⟨k, hk, rfl, ho, hbel, hblk, hgr⟩ := hrel
    have hcell := hblk.out.cell
    by_cases hlt : k < nl
    · have hSv : SlR wr B 86 128 av nl cv (L 721) := HSv.out.below (hbel.out.mono hB)
      obtain ⟨b, o, rfl, hbB, hrng, hlen⟩ := hSv.range hlt
      obtain ⟨b2, o2, rfl, hbB2, hcc2⟩ := HSl.out.cells (by omega)
      obtain ⟨g83, g84, g81, -, -, -, -⟩ := HV.out k hlt
      obtain ⟨gf, wf0, wf1⟩ := HF.out k hlt
      have g0 : ∀ j, j < 86 → (((L 721).drop (k * 86)).take 86)[j]? = (L 721)[86 * k + j]? := fun j hj => by
        rw [List.getElem?_take, if_pos hj, List.getElem?_drop]; exact congrArg (fun i => (L 721)[i]?) (by omega)
      have ho1 : (((L 721).drop (k * 86)).take 86).toArray.all (·.oneCell') = true := all_oneCell_toArray fun v hv => by
        obtain ⟨j, hj, rfl⟩ := List.mem_iff_getElem.1 hv
        have hj2 : j < 86 := by rw [hlen] at hj; exact hj
        have := g0 j hj2
        rw [List.getElem?_eq_getElem hj] at this
        exact CK.ok_one (HEL.out _ _ this.symm)
      have HV83 : Hid ((((L 721).drop (k * 86)).take 86).toArray[83]? = some (.int .u64 (lN (L 721) (86 * k + 83)))) := Lib.hid (by rw [List.getElem?_toArray, g0 83 (by omega)]; exact g83)
      have HV84 : Hid ((((L 721).drop (k * 86)).take 86).toArray[84]? = some (.int .u64 (lN (L 721) (86 * k + 84)))) := Lib.hid (by rw [List.getElem?_toArray, g0 84 (by omega)]; exact g84)
      have HV81 : Hid ((((L 721).drop (k * 86)).take 86).toArray[81]? = some (.bool (lB (L 721) (86 * k + 81)))) := Lib.hid (by rw [List.getElem?_toArray, g0 81 (by omega)]; exact g81)
      have HCF : Hid (∀ w', Below w.heap.size w w' → w'.cell? ⟨b2, o2 + k, none⟩ = some (.int .u8 (lN (L 988) k))) := Lib.hid fun w' h => (h.cell (by show b2 < _; omega)).trans (hcc2 _ _ gf)
      have HUB : Hid (unsB (L 721) (L 988) q f k = (actB (L 721) q k && (!lB (L 721) (86 * k + 81) && bitB (lN (L 988) k) f))) := Lib.hid rfl
      obtain ⟨ab, hab⟩ : ∃ ab, ab = actB (L 721) q k := ⟨_, rfl⟩
      have HAB : Hid (decide (lN (L 721) (86 * k + 83) ≤ q ∧ q < lN (L 721) (86 * k + 84)) = ab) := Lib.hid (by rw [hab]; rfl)
      obtain ⟨tb, htb⟩ : ∃ tb, tb = bitB (lN (L 988) k) f := ⟨_, rfl⟩
      rw [← hab, ← htb] at HUB
      have HTB := Lib.hid htb.symm
      have HX := Lib.hid (show W8 (lN (L 988) k) from ⟨wf0, wf1⟩)
      have Ho1 := Lib.hid ho1
      have Hrng := Lib.hid hrng
      have Hlen := Lib.hid hlen
      clear g0 ho1 hrng hlen hSv hcc2 g81 g83 g84 gf hab htb
      generalize ((L 721).drop (k * 86)).take 86 = V at *
      generalize lB (L 721) (86 * k + 81) = sb at *
      generalize lN (L 721) (86 * k + 83) = ac at *
      generalize lN (L 721) (86 * k + 84) = ex at *
      generalize lN (L 988) k = x at *
      go_upto_region 11 with (first | ((with_reducible apply l_loadr 82); (focus rfl); (focus (repeat (first | exact Hrng.out | assumption | apply World.rangeAt_alloc))); (focus exact Try.underlying82); (focus rfl); (focus exact szVal); (focus exact Hlen.out); (try go_frame)) | ((with_reducible apply l_alloc 82); (focus kernel_rfl); (try go_frame)) | ((with_reducible apply l_storew 82); (focus rfl); (focus rfl); (focus (repeat (first | assumption | (apply Blk.newAt; (focus (simp; done))) | apply Blk.alloc | apply Blk.setRow | apply Blk.drewN | apply Blk.drew | (refine Blk.setRow_other ?_ ?_ _; focus (first | omega | (simp; omega)))))); (focus exact szVal); (focus (first | exact (by simpa using Hlen.out) | (first | omega | (simp; done) | (simp; omega) | assumption))); (focus (first | omega | (simp; done) | (simp; omega) | assumption)); (focus exact Ho1.out); (focus (repeat (first | (apply setRow_eq_at; (focus (simp; done))) | (refine setRow_eq_past ?_ ?_; (focus (first | (simp; done) | omega | (simp; omega)))) | apply setRow_eq_drewN | apply setRow_eq_drew | rfl))); (try go_frame)))
      obtain ⟨wo, hwo⟩ : ∃ wo : World, wo = wr.alloc (.cells V.toArray 82) := ⟨_, rfl⟩
      have HD1 : Hid (Below w.heap.size w wo) := Lib.hid (by rw [hwo]; exact hbel.out.alloc (by omega) _)
      have HK1 : Hid (Blk wo w.heap.size 49 cs) := Lib.hid (by rw [hwo]; exact hblk.out.alloc _)
      have HO1 : Hid (wo.ownsRow (w.heap.size + 1) 22 1 u9 (unsL (L 721) (L 988) q f k).length (nums (unsL (L 721) (L 988) q f k))) := Lib.hid (by rw [hwo]; exact ho.out.alloc _)
      have hkv : Blk wo wr.heap.size 82 V.toArray := by rw [hwo]; exact Blk.new _ _ _
      have hv1 : 86 ≤ V.toArray.size := by have := Hlen.out; simp; omega
      have hv2 : V.toArray.size ≤ 86 := by have := Hlen.out; simp; omega
      rw [← hwo]
      clear hwo hcell ho hbel hblk
      cases ab
      case false =>
        have hno : Hid (unsL (L 721) (L 988) q f (k + 1) = unsL (L 721) (L 988) q f k) := Lib.hid (unsL_succ_no (by rw [HUB.out]; rfl))
        clear HUB
        go_wp2_with (first
          | ((with_reducible apply l_loadw 82); (focus rfl); (focus (repeat (first | assumption | (apply Blk.newAt; (focus (simp; done))) | apply Blk.alloc | apply Blk.setRow | apply Blk.drewN | apply Blk.drew | (refine Blk.setRow_other ?_ ?_ _; focus (first | omega | (simp; omega)))))); (focus exact Try.underlying82); (focus rfl); (focus exact szVal); (focus (first | exact omega | (first | omega | (simp; done) | (simp; omega) | assumption))); (try go_frame))
          | (go_at_call 34; refine (ractive_any V.toArray q ac ex HV83.out HV84.out _).mono ?_
             rintro e w1 ⟨rfl, hb1⟩
             rw [HAB.out]
             have hkv1 := Blk.below hkv hb1 hkv.lt
             have HO2 := Lib.hid (own_blk HO1.out hb1)
             have HD2 := Lib.hid (HD1.out.trans (hb1.mono (by have := hkv.lt; omega)))
             have HK2 := Lib.hid (HK1.out.below hb1 (by have := hkv.lt; omega))
             have HG2 : w.heap.size < w1.heap.size := by have := hb1.size; have := hkv.lt; omega
             have c81 := hkv1.cell 81
             rw [HV81.out] at c81
             have hst : w1.cell? ⟨w.heap.size, 721, none⟩ = some (.slice (some ⟨b, o, none⟩) nl cv) := by rw [HK2.out.cell]; exact h721
             have cf : w1.cell? ⟨b2, o2 + k, none⟩ = some (.int .u8 x) := HCF.out w1 HD2.out
             clear hkv hkv1 hb1)
          | (go_at_call 35; refine (has_any x HX.out f hf _).mono ?_
             rintro e w2 ⟨rfl, rfl⟩
             rw [HTB.out]))
        go_roundw
        case rel => exact ⟨k + 1, by omega, by go_num, by rw [hno.out]; exact HO2, HD2, HK2, HG2⟩
        case measure => simp [intOf]; omega
      cases sb
      case true =>
        have hno : Hid (unsL (L 721) (L 988) q f (k + 1) = unsL (L 721) (L 988) q f k) := Lib.hid (unsL_succ_no (by rw [HUB.out]; rfl))
        clear HUB
        go_wp2_with (first
          | ((with_reducible apply l_loadw 82); (focus rfl); (focus (repeat (first | assumption | (apply Blk.newAt; (focus (simp; done))) | apply Blk.alloc | apply Blk.setRow | apply Blk.drewN | apply Blk.drew | (refine Blk.setRow_other ?_ ?_ _; focus (first | omega | (simp; omega)))))); (focus exact Try.underlying82); (focus rfl); (focus exact szVal); (focus (first | exact omega | (first | omega | (simp; done) | (simp; omega) | assumption))); (try go_frame))
          | (go_at_call 34; refine (ractive_any V.toArray q ac ex HV83.out HV84.out _).mono ?_
             rintro e w1 ⟨rfl, hb1⟩
             rw [HAB.out]
             have hkv1 := Blk.below hkv hb1 hkv.lt
             have HO2 := Lib.hid (own_blk HO1.out hb1)
             have HD2 := Lib.hid (HD1.out.trans (hb1.mono (by have := hkv.lt; omega)))
             have HK2 := Lib.hid (HK1.out.below hb1 (by have := hkv.lt; omega))
             have HG2 : w.heap.size < w1.heap.size := by have := hb1.size; have := hkv.lt; omega
             have c81 := hkv1.cell 81
             rw [HV81.out] at c81
             have hst : w1.cell? ⟨w.heap.size, 721, none⟩ = some (.slice (some ⟨b, o, none⟩) nl cv) := by rw [HK2.out.cell]; exact h721
             have cf : w1.cell? ⟨b2, o2 + k, none⟩ = some (.int .u8 x) := HCF.out w1 HD2.out
             clear hkv hkv1 hb1)
          | (go_at_call 35; refine (has_any x HX.out f hf _).mono ?_
             rintro e w2 ⟨rfl, rfl⟩
             rw [HTB.out]))
        go_roundw
        case rel => exact ⟨k + 1, by omega, by go_num, by rw [hno.out]; exact HO2, HD2, HK2, HG2⟩
        case measure => simp [intOf]; omega
      cases tb
      case false =>
        have hno : Hid (unsL (L 721) (L 988) q f (k + 1) = unsL (L 721) (L 988) q f k) := Lib.hid (unsL_succ_no (by rw [HUB.out]; rfl))
        clear HUB
        go_wp2_with (first
          | ((with_reducible apply l_loadw 82); (focus rfl); (focus (repeat (first | assumption | (apply Blk.newAt; (focus (simp; done))) | apply Blk.alloc | apply Blk.setRow | apply Blk.drewN | apply Blk.drew | (refine Blk.setRow_other ?_ ?_ _; focus (first | omega | (simp; omega)))))); (focus exact Try.underlying82); (focus rfl); (focus exact szVal); (focus (first | exact omega | (first | omega | (simp; done) | (simp; omega) | assumption))); (try go_frame))
          | (go_at_call 34; refine (ractive_any V.toArray q ac ex HV83.out HV84.out _).mono ?_
             rintro e w1 ⟨rfl, hb1⟩
             rw [HAB.out]
             have hkv1 := Blk.below hkv hb1 hkv.lt
             have HO2 := Lib.hid (own_blk HO1.out hb1)
             have HD2 := Lib.hid (HD1.out.trans (hb1.mono (by have := hkv.lt; omega)))
             have HK2 := Lib.hid (HK1.out.below hb1 (by have := hkv.lt; omega))
             have HG2 : w.heap.size < w1.heap.size := by have := hb1.size; have := hkv.lt; omega
             have c81 := hkv1.cell 81
             rw [HV81.out] at c81
             have hst : w1.cell? ⟨w.heap.size, 721, none⟩ = some (.slice (some ⟨b, o, none⟩) nl cv) := by rw [HK2.out.cell]; exact h721
             have cf : w1.cell? ⟨b2, o2 + k, none⟩ = some (.int .u8 x) := HCF.out w1 HD2.out
             clear hkv hkv1 hb1)
          | (go_at_call 35; refine (has_any x HX.out f hf _).mono ?_
             rintro e w2 ⟨rfl, rfl⟩
             rw [HTB.out]))
        go_roundw
        case rel => exact ⟨k + 1, by omega, by go_num, by rw [hno.out]; exact HO2, HD2, HK2, HG2⟩
        case measure => simp [intOf]; omega
      case true =>
        have hyes : Hid (unsL (L 721) (L 988) q f (k + 1) = unsL (L 721) (L 988) q f k ++ [k]) := Lib.hid (unsL_succ_yes (by rw [HUB.out]; rfl))
        have hulen := unsL_len (L 721) (L 988) q f k
        clear HUB
        go_wp2_with (first | (at_builtin; (with_reducible apply l_append 37 (w.heap.size + 1)); (focus exact Try.underlying37); (focus exact HI.out.1); (focus exact HI.out.2.1); (focus exact HI.out.2.2.1); (focus exact HI.out.2.2.2); (focus (first | rfl | exact HZ.out)); (focus decide); (focus rfl); (focus exact (HO2.out.alloc _)); (focus rfl); (focus exact (slr_new (bytes := 8) _ _ _ (by decide))); (focus exact (by intro u hu; simp at hu; subst hu; rfl)); (focus (first | omega | (simp; omega))); (focus (first | omega | (simp; omega))); (focus (first | omega | (simp; done) | (simp; omega)))) | (first
          | ((with_reducible apply l_loadw 82); (focus rfl); (focus (repeat (first | assumption | (apply Blk.newAt; (focus (simp; done))) | apply Blk.alloc | apply Blk.setRow | apply Blk.drewN | apply Blk.drew | (refine Blk.setRow_other ?_ ?_ _; focus (first | omega | (simp; omega)))))); (focus exact Try.underlying82); (focus rfl); (focus exact szVal); (focus (first | exact omega | (first | omega | (simp; done) | (simp; omega) | assumption))); (try go_frame))
          | (go_at_call 34; refine (ractive_any V.toArray q ac ex HV83.out HV84.out _).mono ?_
             rintro e w1 ⟨rfl, hb1⟩
             rw [HAB.out]
             have hkv1 := Blk.below hkv hb1 hkv.lt
             have HO2 := Lib.hid (own_blk HO1.out hb1)
             have HD2 := Lib.hid (HD1.out.trans (hb1.mono (by have := hkv.lt; omega)))
             have HK2 := Lib.hid (HK1.out.below hb1 (by have := hkv.lt; omega))
             have HG2 : w.heap.size < w1.heap.size := by have := hb1.size; have := hkv.lt; omega
             have c81 := hkv1.cell 81
             rw [HV81.out] at c81
             have hst : w1.cell? ⟨w.heap.size, 721, none⟩ = some (.slice (some ⟨b, o, none⟩) nl cv) := by rw [HK2.out.cell]; exact h721
             have cf : w1.cell? ⟨b2, o2 + k, none⟩ = some (.int .u8 x) := HCF.out w1 HD2.out
             clear hkv hkv1 hb1)
          | (go_at_call 35; refine (has_any x HX.out f hf _).mono ?_
             rintro e w2 ⟨rfl, rfl⟩
             rw [HTB.out])))
        intro v3 w3 hown3 hg3
        have hb3 := Lib.hid (grown_below HD2.out HO2.out (by omega) hg3)
        have hk3 := Lib.hid (grown_blk HK2.out HO2.out (by omega) hg3)
        have ho3 : Hid (w3.ownsRow (w.heap.size + 1) 22 1 v3 (unsL (L 721) (L 988) q f (k + 1)).length (nums (unsL (L 721) (L 988) q f (k + 1)))) := Lib.hid (by rw [hyes.out, nums_snoc, List.length_append]; exact hown3)
        have hgg := hk3.out.lt
        clear hown3 hg3 c81 cf hst
        go_wp2
        go_roundw
        case rel => (first | exact ⟨k + 1, by omega, by go_num, ho3, hb3, hk3, hgg⟩ | ((repeat apply Exists.intro); exact ⟨⟨k + 1, by omega, by go_num, ho3, hb3, hk3, hgg⟩, rfl⟩))
        case measure => simp [intOf]; omega
    · obtain rfl : k = nl := by omega
      clear hlt hk
      go_wp2
      go_ret2
      exact ⟨_, rfl, own_weak ho.out (by omega), hbel.out⟩

set_option maxHeartbeats 4000000 in
theorem runs_prev (cs : Array Value) (L : Nat → List Value) (B : Nat) (w : World) (hB : B ≤ w.heap.size) (h : IsSt w B cs L) (hr : RightP cs L) (f : Nat) (hf : f < 3) (q : Int) (hep : W64 q) (he : q ≠ cN cs 33 / 4) (he2 : q = subz (cN cs 33 / 4) 1) :
    Calls Try.prog 17 #[.agg cs, .int .i64 f, .int .u64 q] w fun e w' => ∃ v, e = .returned (.tuple #[v, .int .i64 0]) ∧
      w'.ownsRow w.heap.size 22 1 v (unsL (L 721) (L 987) q f (cnt L 721)).length (nums (unsL (L 721) (L 987) q f (cnt L 721))) ∧ Below w.heap.size w w' := by
  obtain ⟨av, nv, cv, h721, sv⟩ := h.sl 721 (by decide)
  obtain ⟨al, nl, cl, hls, sl⟩ := h.sl 987 (by decide)
  obtain ⟨al', nl', cl', hls', -⟩ := h.sl 988 (by decide)
  have hl : (L 721).length = nv * 86 := sv.len
  have hc : cnt L 721 = nv := by unfold cnt; rw [hl]; exact Nat.mul_div_cancel _ (by decide)
  have hll : (L 987).length = nl := by have := sl.len; simpa [esz] using this
  have hlc : nl = nv := by
    have : cnt L 987 = cnt L 721 := hr.prev
    rw [hc] at this
    rw [← this]; unfold cnt; rw [hll]; simp [esz]
  subst hlc
  have hnv : nl ≤ 65536 := by have := hr.vals; omega
  have HV := Lib.hid (fun k (hk : k < nl) => val_of h (k := k) (by rw [hc]; exact hk))
  have HF := Lib.hid (fun k (hk : k < nl) => h.eN8 987 k (by decide) rfl (by omega))
  obtain ⟨h33, w33a, w33b⟩ := h.wf.u64 33 rfl
  have hs1 := hr.slot
  obtain ⟨z0, hz⟩ : ∃ z0, ((Try.prog.info? 22).map (fun i => (i.zero, i.size, i.bytes)) = some (some z0, 1, 8)) ∧ z0.cells.size = 1 := ⟨((Try.prog.info? 22).bind (·.zero)).getD undef, by kernel_rfl, by kernel_rfl⟩
  obtain ⟨i0, hi, hz0, hz1, hz2⟩ := info_parts hz.1
  have HI := Lib.hid (And.intro hi (And.intro hz0 (And.intro hz1 hz2)))
  have HZ := Lib.hid hz.2
  have HSv := Lib.hid sv
  have HSl := Lib.hid sl
  have H := Lib.hid h
  have HWf := Lib.hid h.wf
  have R := Lib.hid (rightB_yes hr)
  have HC := Lib.hid hc
  have hsz1 : 1957 ≤ cs.size := Nat.le_of_eq h.wf.size.symm
  have hsz2 : cs.size ≤ 1957 := Nat.le_of_eq h.wf.size
  have HEL := Lib.hid (h.el 721 (by decide))
  obtain ⟨_, _⟩ := hep
  rw [hc]
  clear hi hz0 hz1 hz2 hz sv sl h hr hc hl hll
  have f1 : decide ((f : Int) < 0) = false := decide_eq_false (by omega)
  have f2 : decide (2 < (f : Int)) = false := decide_eq_false (by omega)
  generalize hs : cN cs 33 = s at *
  have HS33 := Lib.hid hs
  clear hs
  have m1 : (q != s / 4) = true := bne_iff_ne.2 he
  have m2 : (q == s / 4) = false := beq_eq_false_iff_ne.2 he
  have m3 : (q != subz (s / 4) 1) = false := by rw [← he2]; exact bne_self_eq_false _
  clear he he2
  go_enter Try.func17, Try.ntmps17
  go_upto_region 1 with fail
  obtain ⟨wx, hwx⟩ : ∃ wx : World, wx = w.alloc (.cells cs 49) := ⟨_, rfl⟩
  have hbx : Below w.heap.size w wx := by rw [hwx]; exact (by (repeat (first | exact Below.refl _ _ | apply Below.drew | apply below_drewN | (refine Below.alloc ?_ ?_ _) | (refine below_setRow ?_ ?_ _) | (refine Below.setCell ?_ ?_ _) | (refine Below.trans ?_ (Below.mono (by assumption) ?_)) | omega | (focus (simp; done)) | (focus (simp; omega)))))
  have hk : Blk wx w.heap.size 49 cs := by rw [hwx]; exact (by (repeat (first | assumption | (apply Blk.newAt; (focus (simp; done))) | apply Blk.alloc | apply Blk.setRow | apply Blk.drewN | apply Blk.drew | (refine Blk.setRow_other ?_ ?_ _; focus (first | omega | (simp; omega))))))
  rw [← hwx]
  clear hwx
  have hg := hk.lt
  have D := Lib.hid hbx
  clear hbx
  go_upto_region 3 with (first
    | ((with_reducible apply l_loadw 49); (focus rfl); (focus (repeat (first | assumption | (apply Blk.newAt; (focus (simp; done))) | apply Blk.alloc | apply Blk.setRow | apply Blk.drewN | apply Blk.drew | (refine Blk.setRow_other ?_ ?_ _; focus (first | omega | (simp; omega)))))); (focus exact Try.underlying49); (focus rfl); (focus exact szState); (focus (first | exact omega | (first | omega | (simp; done) | (simp; omega) | assumption))); (try go_frame))
    | ((with_reducible apply o_loadw 49); (focus rfl); (focus (repeat (first | assumption | (apply Blk.newAt; (focus (simp; done))) | apply Blk.alloc | apply Blk.setRow | apply Blk.drewN | apply Blk.drew | (refine Blk.setRow_other ?_ ?_ _; focus (first | omega | (simp; omega)))))); (focus exact Try.underlying49); (focus rfl); (focus exact szState); (focus (first | omega | (simp; done) | (simp; omega) | assumption)); (try simp only [Act.put, List.setIfInBounds_toArray, List.set_cons_zero, List.set_cons_succ]))
    | (go_at_call 33; refine (rright_any cs L w.heap.size _ (by omega) ?_).mono ?_
       focus (exact (H.out.more hB).below D.out)
       rintro e w1 ⟨rfl, hb1⟩
       rw [R.out]
       have hk2 := Blk.below hk hb1 (by omega)
       have D2 := Lib.hid (D.out.trans (hb1.mono (by omega)))
       have hg2 := hk2.lt
       clear hk hb1 D hg
       have hk := hk2
       have D := D2
       have hg := hg2
       clear hk2 D2 hg2)
    | (go_at_call 20; refine (repoch_any cs HWf.out _).mono ?_
       rintro e w1 ⟨rfl, hb1⟩
       rw [HS33.out]
       have hk2 := Blk.below hk hb1 (by omega)
       have D2 := Lib.hid (D.out.trans (hb1.mono (by omega)))
       have hg2 := hk2.lt
       clear hk hb1 D hg
       have hk := hk2
       have D := D2
       have hg := hg2
       clear hk2 D2 hg2)
    | (go_at_call 21; refine (rbefore_any cs HWf.out _).mono ?_
       rintro e w1 ⟨rfl, hb1⟩
       rw [HS33.out]
       have hk2 := Blk.below hk hb1 (by omega)
       have D2 := Lib.hid (D.out.trans (hb1.mono (by omega)))
       have hg2 := hk2.lt
       clear hk hb1 D hg
       have hk := hk2
       have D := D2
       have hg := hg2
       clear hk2 D2 hg2))
  have hcell := hk.cell
  go_upto_region 4 with fail
  clear hcell
  go_upto_region 5 with (first
    | ((with_reducible apply l_loadw 49); (focus rfl); (focus (repeat (first | assumption | (apply Blk.newAt; (focus (simp; done))) | apply Blk.alloc | apply Blk.setRow | apply Blk.drewN | apply Blk.drew | (refine Blk.setRow_other ?_ ?_ _; focus (first | omega | (simp; omega)))))); (focus exact Try.underlying49); (focus rfl); (focus exact szState); (focus (first | exact omega | (first | omega | (simp; done) | (simp; omega) | assumption))); (try go_frame))
    | ((with_reducible apply o_loadw 49); (focus rfl); (focus (repeat (first | assumption | (apply Blk.newAt; (focus (simp; done))) | apply Blk.alloc | apply Blk.setRow | apply Blk.drewN | apply Blk.drew | (refine Blk.setRow_other ?_ ?_ _; focus (first | omega | (simp; omega)))))); (focus exact Try.underlying49); (focus rfl); (focus exact szState); (focus (first | omega | (simp; done) | (simp; omega) | assumption)); (try simp only [Act.put, List.setIfInBounds_toArray, List.set_cons_zero, List.set_cons_succ]))
    | (go_at_call 33; refine (rright_any cs L w.heap.size _ (by omega) ?_).mono ?_
       focus (exact (H.out.more hB).below D.out)
       rintro e w1 ⟨rfl, hb1⟩
       rw [R.out]
       have hk2 := Blk.below hk hb1 (by omega)
       have D2 := Lib.hid (D.out.trans (hb1.mono (by omega)))
       have hg2 := hk2.lt
       clear hk hb1 D hg
       have hk := hk2
       have D := D2
       have hg := hg2
       clear hk2 D2 hg2)
    | (go_at_call 20; refine (repoch_any cs HWf.out _).mono ?_
       rintro e w1 ⟨rfl, hb1⟩
       rw [HS33.out]
       have hk2 := Blk.below hk hb1 (by omega)
       have D2 := Lib.hid (D.out.trans (hb1.mono (by omega)))
       have hg2 := hk2.lt
       clear hk hb1 D hg
       have hk := hk2
       have D := D2
       have hg := hg2
       clear hk2 D2 hg2)
    | (go_at_call 21; refine (rbefore_any cs HWf.out _).mono ?_
       rintro e w1 ⟨rfl, hb1⟩
       rw [HS33.out]
       have hk2 := Blk.below hk hb1 (by omega)
       have D2 := Lib.hid (D.out.trans (hb1.mono (by omega)))
       have hg2 := hk2.lt
       clear hk hb1 D hg
       have hk := hk2
       have D := D2
       have hg := hg2
       clear hk2 D2 hg2))
  have hcell := hk.cell
  go_wp2
  clear hcell
  have HKx := Lib.hid hk
  clear hk
  go_loopw [9, 10] (fun v i wr => ∃ k : Nat, k ≤ nl ∧ i = .int .i64 k ∧ Hid (wr.ownsRow (w.heap.size + 1) 22 1 v (unsL (L 721) (L 987) q f k).length (nums (unsL (L 721) (L 987) q f k))) ∧ Hid (Below w.heap.size w wr) ∧ Hid (Blk wr w.heap.size 49 cs) ∧ w.heap.size < wr.heap.size) (fun _ i _ => nl - (intOf i).toNat)
  case atStart => exact ⟨0, by omega, rfl, Lib.hid (World.ownsRow_nil _ _ _ _), D, HKx, hg⟩
  case round =>
    clear HKx D
    obtain ⟨k, hk, rfl, ho, hbel, hblk, hgr⟩ := hrel
    have hcell := hblk.out.cell
    by_cases hlt : k < nl
    · have hSv : SlR wr B 86 128 av nl cv (L 721) := HSv.out.below (hbel.out.mono hB)
      obtain ⟨b, o, rfl, hbB, hrng, hlen⟩ := hSv.range hlt
      obtain ⟨b2, o2, rfl, hbB2, hcc2⟩ := HSl.out.cells (by omega)
      obtain ⟨g83, g84, g81, -, -, -, -⟩ := HV.out k hlt
      obtain ⟨gf, wf0, wf1⟩ := HF.out k hlt
      have g0 : ∀ j, j < 86 → (((L 721).drop (k * 86)).take 86)[j]? = (L 721)[86 * k + j]? := fun j hj => by
        rw [List.getElem?_take, if_pos hj, List.getElem?_drop]; exact congrArg (fun i => (L 721)[i]?) (by omega)
      have ho1 : (((L 721).drop (k * 86)).take 86).toArray.all (·.oneCell') = true := all_oneCell_toArray fun v hv => by
        obtain ⟨j, hj, rfl⟩ := List.mem_iff_getElem.1 hv
        have hj2 : j < 86 := by rw [hlen] at hj; exact hj
        have := g0 j hj2
        rw [List.getElem?_eq_getElem hj] at this
        exact CK.ok_one (HEL.out _ _ this.symm)
      have HV83 : Hid ((((L 721).drop (k * 86)).take 86).toArray[83]? = some (.int .u64 (lN (L 721) (86 * k + 83)))) := Lib.hid (by rw [List.getElem?_toArray, g0 83 (by omega)]; exact g83)
      have HV84 : Hid ((((L 721).drop (k * 86)).take 86).toArray[84]? = some (.int .u64 (lN (L 721) (86 * k + 84)))) := Lib.hid (by rw [List.getElem?_toArray, g0 84 (by omega)]; exact g84)
      have HV81 : Hid ((((L 721).drop (k * 86)).take 86).toArray[81]? = some (.bool (lB (L 721) (86 * k + 81)))) := Lib.hid (by rw [List.getElem?_toArray, g0 81 (by omega)]; exact g81)
      have HCF : Hid (∀ w', Below w.heap.size w w' → w'.cell? ⟨b2, o2 + k, none⟩ = some (.int .u8 (lN (L 987) k))) := Lib.hid fun w' h => (h.cell (by show b2 < _; omega)).trans (hcc2 _ _ gf)
      have HUB : Hid (unsB (L 721) (L 987) q f k = (actB (L 721) q k && (!lB (L 721) (86 * k + 81) && bitB (lN (L 987) k) f))) := Lib.hid rfl
      obtain ⟨ab, hab⟩ : ∃ ab, ab = actB (L 721) q k := ⟨_, rfl⟩
      have HAB : Hid (decide (lN (L 721) (86 * k + 83) ≤ q ∧ q < lN (L 721) (86 * k + 84)) = ab) := Lib.hid (by rw [hab]; rfl)
      obtain ⟨tb, htb⟩ : ∃ tb, tb = bitB (lN (L 987) k) f := ⟨_, rfl⟩
      rw [← hab, ← htb] at HUB
      have HTB := Lib.hid htb.symm
      have HX := Lib.hid (show W8 (lN (L 987) k) from ⟨wf0, wf1⟩)
      have Ho1 := Lib.hid ho1
      have Hrng := Lib.hid hrng
      have Hlen := Lib.hid hlen
      clear g0 ho1 hrng hlen hSv hcc2 g81 g83 g84 gf hab htb
      generalize ((L 721).drop (k * 86)).take 86 = V at *
      generalize lB (L 721) (86 * k + 81) = sb at *
      generalize lN (L 721) (86 * k + 83) = ac at *
      generalize lN (L 721) (86 * k + 84) = ex at *
      generalize lN (L 987) k = x at *
      go_upto_region 11 with (first | ((with_reducible apply l_loadr 82); (focus rfl); (focus (repeat (first | exact Hrng.out | assumption | apply World.rangeAt_alloc))); (focus exact Try.underlying82); (focus rfl); (focus exact szVal); (focus exact Hlen.out); (try go_frame)) | ((with_reducible apply l_alloc 82); (focus kernel_rfl); (try go_frame)) | ((with_reducible apply l_storew 82); (focus rfl); (focus rfl); (focus (repeat (first | assumption | (apply Blk.newAt; (focus (simp; done))) | apply Blk.alloc | apply Blk.setRow | apply Blk.drewN | apply Blk.drew | (refine Blk.setRow_other ?_ ?_ _; focus (first | omega | (simp; omega)))))); (focus exact szVal); (focus (first | exact (by simpa using Hlen.out) | (first | omega | (simp; done) | (simp; omega) | assumption))); (focus (first | omega | (simp; done) | (simp; omega) | assumption)); (focus exact Ho1.out); (focus (repeat (first | (apply setRow_eq_at; (focus (simp; done))) | (refine setRow_eq_past ?_ ?_; (focus (first | (simp; done) | omega | (simp; omega)))) | apply setRow_eq_drewN | apply setRow_eq_drew | rfl))); (try go_frame)))
      obtain ⟨wo, hwo⟩ : ∃ wo : World, wo = wr.alloc (.cells V.toArray 82) := ⟨_, rfl⟩
      have HD1 : Hid (Below w.heap.size w wo) := Lib.hid (by rw [hwo]; exact hbel.out.alloc (by omega) _)
      have HK1 : Hid (Blk wo w.heap.size 49 cs) := Lib.hid (by rw [hwo]; exact hblk.out.alloc _)
      have HO1 : Hid (wo.ownsRow (w.heap.size + 1) 22 1 u9 (unsL (L 721) (L 987) q f k).length (nums (unsL (L 721) (L 987) q f k))) := Lib.hid (by rw [hwo]; exact ho.out.alloc _)
      have hkv : Blk wo wr.heap.size 82 V.toArray := by rw [hwo]; exact Blk.new _ _ _
      have hv1 : 86 ≤ V.toArray.size := by have := Hlen.out; simp; omega
      have hv2 : V.toArray.size ≤ 86 := by have := Hlen.out; simp; omega
      rw [← hwo]
      clear hwo hcell ho hbel hblk
      cases ab
      case false =>
        have hno : Hid (unsL (L 721) (L 987) q f (k + 1) = unsL (L 721) (L 987) q f k) := Lib.hid (unsL_succ_no (by rw [HUB.out]; rfl))
        clear HUB
        go_wp2_with (first
          | ((with_reducible apply l_loadw 82); (focus rfl); (focus (repeat (first | assumption | (apply Blk.newAt; (focus (simp; done))) | apply Blk.alloc | apply Blk.setRow | apply Blk.drewN | apply Blk.drew | (refine Blk.setRow_other ?_ ?_ _; focus (first | omega | (simp; omega)))))); (focus exact Try.underlying82); (focus rfl); (focus exact szVal); (focus (first | exact omega | (first | omega | (simp; done) | (simp; omega) | assumption))); (try go_frame))
          | (go_at_call 34; refine (ractive_any V.toArray q ac ex HV83.out HV84.out _).mono ?_
             rintro e w1 ⟨rfl, hb1⟩
             rw [HAB.out]
             have hkv1 := Blk.below hkv hb1 hkv.lt
             have HO2 := Lib.hid (own_blk HO1.out hb1)
             have HD2 := Lib.hid (HD1.out.trans (hb1.mono (by have := hkv.lt; omega)))
             have HK2 := Lib.hid (HK1.out.below hb1 (by have := hkv.lt; omega))
             have HG2 : w.heap.size < w1.heap.size := by have := hb1.size; have := hkv.lt; omega
             have c81 := hkv1.cell 81
             rw [HV81.out] at c81
             have hst : w1.cell? ⟨w.heap.size, 721, none⟩ = some (.slice (some ⟨b, o, none⟩) nl cv) := by rw [HK2.out.cell]; exact h721
             have cf : w1.cell? ⟨b2, o2 + k, none⟩ = some (.int .u8 x) := HCF.out w1 HD2.out
             clear hkv hkv1 hb1)
          | (go_at_call 35; refine (has_any x HX.out f hf _).mono ?_
             rintro e w2 ⟨rfl, rfl⟩
             rw [HTB.out]))
        go_roundw
        case rel => exact ⟨k + 1, by omega, by go_num, by rw [hno.out]; exact HO2, HD2, HK2, HG2⟩
        case measure => simp [intOf]; omega
      cases sb
      case true =>
        have hno : Hid (unsL (L 721) (L 987) q f (k + 1) = unsL (L 721) (L 987) q f k) := Lib.hid (unsL_succ_no (by rw [HUB.out]; rfl))
        clear HUB
        go_wp2_with (first
          | ((with_reducible apply l_loadw 82); (focus rfl); (focus (repeat (first | assumption | (apply Blk.newAt; (focus (simp; done))) | apply Blk.alloc | apply Blk.setRow | apply Blk.drewN | apply Blk.drew | (refine Blk.setRow_other ?_ ?_ _; focus (first | omega | (simp; omega)))))); (focus exact Try.underlying82); (focus rfl); (focus exact szVal); (focus (first | exact omega | (first | omega | (simp; done) | (simp; omega) | assumption))); (try go_frame))
          | (go_at_call 34; refine (ractive_any V.toArray q ac ex HV83.out HV84.out _).mono ?_
             rintro e w1 ⟨rfl, hb1⟩
             rw [HAB.out]
             have hkv1 := Blk.below hkv hb1 hkv.lt
             have HO2 := Lib.hid (own_blk HO1.out hb1)
             have HD2 := Lib.hid (HD1.out.trans (hb1.mono (by have := hkv.lt; omega)))
             have HK2 := Lib.hid (HK1.out.below hb1 (by have := hkv.lt; omega))
             have HG2 : w.heap.size < w1.heap.size := by have := hb1.size; have := hkv.lt; omega
             have c81 := hkv1.cell 81
             rw [HV81.out] at c81
             have hst : w1.cell? ⟨w.heap.size, 721, none⟩ = some (.slice (some ⟨b, o, none⟩) nl cv) := by rw [HK2.out.cell]; exact h721
             have cf : w1.cell? ⟨b2, o2 + k, none⟩ = some (.int .u8 x) := HCF.out w1 HD2.out
             clear hkv hkv1 hb1)
          | (go_at_call 35; refine (has_any x HX.out f hf _).mono ?_
             rintro e w2 ⟨rfl, rfl⟩
             rw [HTB.out]))
        go_roundw
        case rel => exact ⟨k + 1, by omega, by go_num, by rw [hno.out]; exact HO2, HD2, HK2, HG2⟩
        case measure => simp [intOf]; omega
      cases tb
      case false =>
        have hno : Hid (unsL (L 721) (L 987) q f (k + 1) = unsL (L 721) (L 987) q f k) := Lib.hid (unsL_succ_no (by rw [HUB.out]; rfl))
        clear HUB
        go_wp2_with (first
          | ((with_reducible apply l_loadw 82); (focus rfl); (focus (repeat (first | assumption | (apply Blk.newAt; (focus (simp; done))) | apply Blk.alloc | apply Blk.setRow | apply Blk.drewN | apply Blk.drew | (refine Blk.setRow_other ?_ ?_ _; focus (first | omega | (simp; omega)))))); (focus exact Try.underlying82); (focus rfl); (focus exact szVal); (focus (first | exact omega | (first | omega | (simp; done) | (simp; omega) | assumption))); (try go_frame))
          | (go_at_call 34; refine (ractive_any V.toArray q ac ex HV83.out HV84.out _).mono ?_
             rintro e w1 ⟨rfl, hb1⟩
             rw [HAB.out]
             have hkv1 := Blk.below hkv hb1 hkv.lt
             have HO2 := Lib.hid (own_blk HO1.out hb1)
             have HD2 := Lib.hid (HD1.out.trans (hb1.mono (by have := hkv.lt; omega)))
             have HK2 := Lib.hid (HK1.out.below hb1 (by have := hkv.lt; omega))
             have HG2 : w.heap.size < w1.heap.size := by have := hb1.size; have := hkv.lt; omega
             have c81 := hkv1.cell 81
             rw [HV81.out] at c81
             have hst : w1.cell? ⟨w.heap.size, 721, none⟩ = some (.slice (some ⟨b, o, none⟩) nl cv) := by rw [HK2.out.cell]; exact h721
             have cf : w1.cell? ⟨b2, o2 + k, none⟩ = some (.int .u8 x) := HCF.out w1 HD2.out
             clear hkv hkv1 hb1)
          | (go_at_call 35; refine (has_any x HX.out f hf _).mono ?_
             rintro e w2 ⟨rfl, rfl⟩
             rw [HTB.out]))
        go_roundw
        case rel => exact ⟨k + 1, by omega, by go_num, by rw [hno.out]; exact HO2, HD2, HK2, HG2⟩
        case measure => simp [intOf]; omega
      case true =>
        have hyes : Hid (unsL (L 721) (L 987) q f (k + 1) = unsL (L 721) (L 987) q f k ++ [k]) := Lib.hid (unsL_succ_yes (by rw [HUB.out]; rfl))
        have hulen := unsL_len (L 721) (L 987) q f k
        clear HUB
        go_wp2_with (first | (at_builtin; (with_reducible apply l_append 37 (w.heap.size + 1)); (focus exact Try.underlying37); (focus exact HI.out.1); (focus exact HI.out.2.1); (focus exact HI.out.2.2.1); (focus exact HI.out.2.2.2); (focus (first | rfl | exact HZ.out)); (focus decide); (focus rfl); (focus exact (HO2.out.alloc _)); (focus rfl); (focus exact (slr_new (bytes := 8) _ _ _ (by decide))); (focus exact (by intro u hu; simp at hu; subst hu; rfl)); (focus (first | omega | (simp; omega))); (focus (first | omega | (simp; omega))); (focus (first | omega | (simp; done) | (simp; omega)))) | (first
          | ((with_reducible apply l_loadw 82); (focus rfl); (focus (repeat (first | assumption | (apply Blk.newAt; (focus (simp; done))) | apply Blk.alloc | apply Blk.setRow | apply Blk.drewN | apply Blk.drew | (refine Blk.setRow_other ?_ ?_ _; focus (first | omega | (simp; omega)))))); (focus exact Try.underlying82); (focus rfl); (focus exact szVal); (focus (first | exact omega | (first | omega | (simp; done) | (simp; omega) | assumption))); (try go_frame))
          | (go_at_call 34; refine (ractive_any V.toArray q ac ex HV83.out HV84.out _).mono ?_
             rintro e w1 ⟨rfl, hb1⟩
             rw [HAB.out]
             have hkv1 := Blk.below hkv hb1 hkv.lt
             have HO2 := Lib.hid (own_blk HO1.out hb1)
             have HD2 := Lib.hid (HD1.out.trans (hb1.mono (by have := hkv.lt; omega)))
             have HK2 := Lib.hid (HK1.out.below hb1 (by have := hkv.lt; omega))
             have HG2 : w.heap.size < w1.heap.size := by have := hb1.size; have := hkv.lt; omega
             have c81 := hkv1.cell 81
             rw [HV81.out] at c81
             have hst : w1.cell? ⟨w.heap.size, 721, none⟩ = some (.slice (some ⟨b, o, none⟩) nl cv) := by rw [HK2.out.cell]; exact h721
             have cf : w1.cell? ⟨b2, o2 + k, none⟩ = some (.int .u8 x) := HCF.out w1 HD2.out
             clear hkv hkv1 hb1)
          | (go_at_call 35; refine (has_any x HX.out f hf _).mono ?_
             rintro e w2 ⟨rfl, rfl⟩
             rw [HTB.out])))
        intro v3 w3 hown3 hg3
        have hb3 := Lib.hid (grown_below HD2.out HO2.out (by omega) hg3)
        have hk3 := Lib.hid (grown_blk HK2.out HO2.out (by omega) hg3)
        have ho3 : Hid (w3.ownsRow (w.heap.size + 1) 22 1 v3 (unsL (L 721) (L 987) q f (k + 1)).length (nums (unsL (L 721) (L 987) q f (k + 1)))) := Lib.hid (by rw [hyes.out, nums_snoc, List.length_append]; exact hown3)
        have hgg := hk3.out.lt
        clear hown3 hg3 c81 cf hst
        go_wp2
        go_roundw
        case rel => (first | exact ⟨k + 1, by omega, by go_num, ho3, hb3, hk3, hgg⟩ | ((repeat apply Exists.intro); exact ⟨⟨k + 1, by omega, by go_num, ho3, hb3, hk3, hgg⟩, rfl⟩))
        case measure => simp [intOf]; omega
    · obtain rfl : k = nl := by omega
      clear hlt hk
      go_wp2
      go_ret2
      exact ⟨_, rfl, own_weak ho.out (by omega), hbel.out⟩

theorem runs_any (cs : Array Value) (L : Nat → List Value) (B : Nat) (w : World) (hB : B ≤ w.heap.size) (h : IsSt w B cs L) (hr : RightP cs L) (f : Nat) (hf : f < 3) (q : Int) (hep : W64 q) (hq : q = cN cs 33 / 4 ∨ q = subz (cN cs 33 / 4) 1) :
    Calls Try.prog 17 #[.agg cs, .int .i64 f, .int .u64 q] w fun e w' => ∃ v, e = .returned (.tuple #[v, .int .i64 0]) ∧
      w'.ownsRow w.heap.size 22 1 v (unsL (L 721) (L (lstK (cN cs 33 / 4) q)) q f (cnt L 721)).length (nums (unsL (L 721) (L (lstK (cN cs 33 / 4) q)) q f (cnt L 721))) ∧ Below w.heap.size w w' := by
  by_cases he : q = cN cs 33 / 4
  · have e : lstK (cN cs 33 / 4) q = 988 := if_pos he
    rw [e]
    exact runs_now cs L B w hB h hr f hf q hep he
  · have e : lstK (cN cs 33 / 4) q = 987 := if_neg he
    rw [e]
    exact runs_prev cs L B w hB h hr f hf q hep he (by rcases hq with h | h; exact absurd h he; exact h)

set_option maxHeartbeats 2000000 in
theorem runs_err (cs : Array Value) (L : Nat → List Value) (B : Nat) (w : World) (hB : B ≤ w.heap.size) (h : IsSt w B cs L) (fl q : Int) (hno : ¬ (RightP cs L ∧ 0 ≤ fl ∧ fl < 3 ∧ (q = cN cs 33 / 4 ∨ q = subz (cN cs 33 / 4) 1))) :
    Calls Try.prog 17 #[.agg cs, .int .i64 fl, .int .u64 q] w fun e w' => e = .returned (.tuple #[.slice none 0 0, .int .i64 1]) ∧ Below w.heap.size w w' := by
  obtain ⟨h33, w33a, w33b⟩ := h.wf.u64 33 rfl
  have H := Lib.hid h
  have hsz1 : 1957 ≤ cs.size := Nat.le_of_eq h.wf.size.symm
  have hsz2 : cs.size ≤ 1957 := Nat.le_of_eq h.wf.size
  have HN := Lib.hid hno
  obtain ⟨r, hr⟩ : ∃ r, r = rightB cs L := ⟨_, rfl⟩
  have R := Lib.hid hr.symm
  have HWf := Lib.hid h.wf
  clear h hno hr
  generalize hs : cN cs 33 = s at *
  have HS33 := Lib.hid hs
  clear hs
  have HE4 := Lib.hid (show W64 (s / 4) from ⟨by omega, by omega⟩)
  by_cases c1 : RightP cs L
  case neg =>
    obtain rfl : r = false := by rw [← R.out]; exact rightB_no c1
    clear c1
    go_enter Try.func17, Try.ntmps17
    go_upto_region 1 with fail
    obtain ⟨wx, hwx⟩ : ∃ wx : World, wx = w.alloc (.cells cs 49) := ⟨_, rfl⟩
    have hbx : Below w.heap.size w wx := by rw [hwx]; exact (by (repeat (first | exact Below.refl _ _ | apply Below.drew | apply below_drewN | (refine Below.alloc ?_ ?_ _) | (refine below_setRow ?_ ?_ _) | (refine Below.setCell ?_ ?_ _) | (refine Below.trans ?_ (Below.mono (by assumption) ?_)) | omega | (focus (simp; done)) | (focus (simp; omega)))))
    have hk : Blk wx w.heap.size 49 cs := by rw [hwx]; exact (by (repeat (first | assumption | (apply Blk.newAt; (focus (simp; done))) | apply Blk.alloc | apply Blk.setRow | apply Blk.drewN | apply Blk.drew | (refine Blk.setRow_other ?_ ?_ _; focus (first | omega | (simp; omega))))))
    rw [← hwx]
    clear hwx
    have hg := hk.lt
    have D := Lib.hid hbx
    clear hbx
    go_wp2_with (first
      | ((with_reducible apply l_loadw 49); (focus rfl); (focus (repeat (first | assumption | (apply Blk.newAt; (focus (simp; done))) | apply Blk.alloc | apply Blk.setRow | apply Blk.drewN | apply Blk.drew | (refine Blk.setRow_other ?_ ?_ _; focus (first | omega | (simp; omega)))))); (focus exact Try.underlying49); (focus rfl); (focus exact szState); (focus (first | exact omega | (first | omega | (simp; done) | (simp; omega) | assumption))); (try go_frame))
      | ((with_reducible apply o_loadw 49); (focus rfl); (focus (repeat (first | assumption | (apply Blk.newAt; (focus (simp; done))) | apply Blk.alloc | apply Blk.setRow | apply Blk.drewN | apply Blk.drew | (refine Blk.setRow_other ?_ ?_ _; focus (first | omega | (simp; omega)))))); (focus exact Try.underlying49); (focus rfl); (focus exact szState); (focus (first | omega | (simp; done) | (simp; omega) | assumption)); (try simp only [Act.put, List.setIfInBounds_toArray, List.set_cons_zero, List.set_cons_succ]))
      | (go_at_call 33; refine (rright_any cs L w.heap.size _ (by omega) ?_).mono ?_
         focus (exact (H.out.more hB).below D.out)
         rintro e w1 ⟨rfl, hb1⟩
         rw [R.out]
         have hk2 := Blk.below hk hb1 (by omega)
         have D2 := Lib.hid (D.out.trans (hb1.mono (by omega)))
         have hg2 := hk2.lt
         clear hk hb1 D hg
         have hk := hk2
         have D := D2
         have hg := hg2
         clear hk2 D2 hg2)
      | (go_at_call 20; refine (repoch_any cs HWf.out _).mono ?_
         rintro e w1 ⟨rfl, hb1⟩
         rw [HS33.out]
         have hk2 := Blk.below hk hb1 (by omega)
         have D2 := Lib.hid (D.out.trans (hb1.mono (by omega)))
         have hg2 := hk2.lt
         clear hk hb1 D hg
         have hk := hk2
         have D := D2
         have hg := hg2
         clear hk2 D2 hg2)
      | (go_at_call 21; refine (rbefore_any cs HWf.out _).mono ?_
         rintro e w1 ⟨rfl, hb1⟩
         rw [HS33.out]
         have hk2 := Blk.below hk hb1 (by omega)
         have D2 := Lib.hid (D.out.trans (hb1.mono (by omega)))
         have hg2 := hk2.lt
         clear hk hb1 D hg
         have hk := hk2
         have D := D2
         have hg := hg2
         clear hk2 D2 hg2))
    go_ret2
    exact ⟨rfl, D.out⟩
  obtain rfl : r = true := by rw [← R.out]; exact rightB_yes c1
  by_cases c2 : fl < 0
  · have d1 : decide (fl < 0) = true := decide_eq_true c2
    clear c1 c2
    go_enter Try.func17, Try.ntmps17
    go_upto_region 1 with fail
    obtain ⟨wx, hwx⟩ : ∃ wx : World, wx = w.alloc (.cells cs 49) := ⟨_, rfl⟩
    have hbx : Below w.heap.size w wx := by rw [hwx]; exact (by (repeat (first | exact Below.refl _ _ | apply Below.drew | apply below_drewN | (refine Below.alloc ?_ ?_ _) | (refine below_setRow ?_ ?_ _) | (refine Below.setCell ?_ ?_ _) | (refine Below.trans ?_ (Below.mono (by assumption) ?_)) | omega | (focus (simp; done)) | (focus (simp; omega)))))
    have hk : Blk wx w.heap.size 49 cs := by rw [hwx]; exact (by (repeat (first | assumption | (apply Blk.newAt; (focus (simp; done))) | apply Blk.alloc | apply Blk.setRow | apply Blk.drewN | apply Blk.drew | (refine Blk.setRow_other ?_ ?_ _; focus (first | omega | (simp; omega))))))
    rw [← hwx]
    clear hwx
    have hg := hk.lt
    have D := Lib.hid hbx
    clear hbx
    go_wp2_with (first
      | ((with_reducible apply l_loadw 49); (focus rfl); (focus (repeat (first | assumption | (apply Blk.newAt; (focus (simp; done))) | apply Blk.alloc | apply Blk.setRow | apply Blk.drewN | apply Blk.drew | (refine Blk.setRow_other ?_ ?_ _; focus (first | omega | (simp; omega)))))); (focus exact Try.underlying49); (focus rfl); (focus exact szState); (focus (first | exact omega | (first | omega | (simp; done) | (simp; omega) | assumption))); (try go_frame))
      | ((with_reducible apply o_loadw 49); (focus rfl); (focus (repeat (first | assumption | (apply Blk.newAt; (focus (simp; done))) | apply Blk.alloc | apply Blk.setRow | apply Blk.drewN | apply Blk.drew | (refine Blk.setRow_other ?_ ?_ _; focus (first | omega | (simp; omega)))))); (focus exact Try.underlying49); (focus rfl); (focus exact szState); (focus (first | omega | (simp; done) | (simp; omega) | assumption)); (try simp only [Act.put, List.setIfInBounds_toArray, List.set_cons_zero, List.set_cons_succ]))
      | (go_at_call 33; refine (rright_any cs L w.heap.size _ (by omega) ?_).mono ?_
         focus (exact (H.out.more hB).below D.out)
         rintro e w1 ⟨rfl, hb1⟩
         rw [R.out]
         have hk2 := Blk.below hk hb1 (by omega)
         have D2 := Lib.hid (D.out.trans (hb1.mono (by omega)))
         have hg2 := hk2.lt
         clear hk hb1 D hg
         have hk := hk2
         have D := D2
         have hg := hg2
         clear hk2 D2 hg2)
      | (go_at_call 20; refine (repoch_any cs HWf.out _).mono ?_
         rintro e w1 ⟨rfl, hb1⟩
         rw [HS33.out]
         have hk2 := Blk.below hk hb1 (by omega)
         have D2 := Lib.hid (D.out.trans (hb1.mono (by omega)))
         have hg2 := hk2.lt
         clear hk hb1 D hg
         have hk := hk2
         have D := D2
         have hg := hg2
         clear hk2 D2 hg2)
      | (go_at_call 21; refine (rbefore_any cs HWf.out _).mono ?_
         rintro e w1 ⟨rfl, hb1⟩
         rw [HS33.out]
         have hk2 := Blk.below hk hb1 (by omega)
         have D2 := Lib.hid (D.out.trans (hb1.mono (by omega)))
         have hg2 := hk2.lt
         clear hk hb1 D hg
         have hk := hk2
         have D := D2
         have hg := hg2
         clear hk2 D2 hg2))
    go_ret2
    exact ⟨rfl, D.out⟩
  have d1 : decide (fl < 0) = false := decide_eq_false c2
  by_cases c3 : 2 < fl
  · have d2 : decide (2 < fl) = true := decide_eq_true c3
    clear c1 c2
    go_enter Try.func17, Try.ntmps17
    go_upto_region 1 with fail
    obtain ⟨wx, hwx⟩ : ∃ wx : World, wx = w.alloc (.cells cs 49) := ⟨_, rfl⟩
    have hbx : Below w.heap.size w wx := by rw [hwx]; exact (by (repeat (first | exact Below.refl _ _ | apply Below.drew | apply below_drewN | (refine Below.alloc ?_ ?_ _) | (refine below_setRow ?_ ?_ _) | (refine Below.setCell ?_ ?_ _) | (refine Below.trans ?_ (Below.mono (by assumption) ?_)) | omega | (focus (simp; done)) | (focus (simp; omega)))))
    have hk : Blk wx w.heap.size 49 cs := by rw [hwx]; exact (by (repeat (first | assumption | (apply Blk.newAt; (focus (simp; done))) | apply Blk.alloc | apply Blk.setRow | apply Blk.drewN | apply Blk.drew | (refine Blk.setRow_other ?_ ?_ _; focus (first | omega | (simp; omega))))))
    rw [← hwx]
    clear hwx
    have hg := hk.lt
    have D := Lib.hid hbx
    clear hbx
    go_wp2_with (first
      | ((with_reducible apply l_loadw 49); (focus rfl); (focus (repeat (first | assumption | (apply Blk.newAt; (focus (simp; done))) | apply Blk.alloc | apply Blk.setRow | apply Blk.drewN | apply Blk.drew | (refine Blk.setRow_other ?_ ?_ _; focus (first | omega | (simp; omega)))))); (focus exact Try.underlying49); (focus rfl); (focus exact szState); (focus (first | exact omega | (first | omega | (simp; done) | (simp; omega) | assumption))); (try go_frame))
      | ((with_reducible apply o_loadw 49); (focus rfl); (focus (repeat (first | assumption | (apply Blk.newAt; (focus (simp; done))) | apply Blk.alloc | apply Blk.setRow | apply Blk.drewN | apply Blk.drew | (refine Blk.setRow_other ?_ ?_ _; focus (first | omega | (simp; omega)))))); (focus exact Try.underlying49); (focus rfl); (focus exact szState); (focus (first | omega | (simp; done) | (simp; omega) | assumption)); (try simp only [Act.put, List.setIfInBounds_toArray, List.set_cons_zero, List.set_cons_succ]))
      | (go_at_call 33; refine (rright_any cs L w.heap.size _ (by omega) ?_).mono ?_
         focus (exact (H.out.more hB).below D.out)
         rintro e w1 ⟨rfl, hb1⟩
         rw [R.out]
         have hk2 := Blk.below hk hb1 (by omega)
         have D2 := Lib.hid (D.out.trans (hb1.mono (by omega)))
         have hg2 := hk2.lt
         clear hk hb1 D hg
         have hk := hk2
         have D := D2
         have hg := hg2
         clear hk2 D2 hg2)
      | (go_at_call 20; refine (repoch_any cs HWf.out _).mono ?_
         rintro e w1 ⟨rfl, hb1⟩
         rw [HS33.out]
         have hk2 := Blk.below hk hb1 (by omega)
         have D2 := Lib.hid (D.out.trans (hb1.mono (by omega)))
         have hg2 := hk2.lt
         clear hk hb1 D hg
         have hk := hk2
         have D := D2
         have hg := hg2
         clear hk2 D2 hg2)
      | (go_at_call 21; refine (rbefore_any cs HWf.out _).mono ?_
         rintro e w1 ⟨rfl, hb1⟩
         rw [HS33.out]
         have hk2 := Blk.below hk hb1 (by omega)
         have D2 := Lib.hid (D.out.trans (hb1.mono (by omega)))
         have hg2 := hk2.lt
         clear hk hb1 D hg
         have hk := hk2
         have D := D2
         have hg := hg2
         clear hk2 D2 hg2))
    go_ret2
    exact ⟨rfl, D.out⟩
  have d2 : decide (2 < fl) = false := decide_eq_false c3
  have m1 : (q != s / 4) = true := bne_iff_ne.2 fun h => HN.out ⟨c1, by omega, by omega, .inl h⟩
  have m3 : (q != subz (s / 4) 1) = true := bne_iff_ne.2 fun h => HN.out ⟨c1, by omega, by omega, .inr h⟩
  clear c1 c2 c3
  case _ =>
    go_enter Try.func17, Try.ntmps17
    go_upto_region 1 with fail
    obtain ⟨wx, hwx⟩ : ∃ wx : World, wx = w.alloc (.cells cs 49) := ⟨_, rfl⟩
    have hbx : Below w.heap.size w wx := by rw [hwx]; exact (by (repeat (first | exact Below.refl _ _ | apply Below.drew | apply below_drewN | (refine Below.alloc ?_ ?_ _) | (refine below_setRow ?_ ?_ _) | (refine Below.setCell ?_ ?_ _) | (refine Below.trans ?_ (Below.mono (by assumption) ?_)) | omega | (focus (simp; done)) | (focus (simp; omega)))))
    have hk : Blk wx w.heap.size 49 cs := by rw [hwx]; exact (by (repeat (first | assumption | (apply Blk.newAt; (focus (simp; done))) | apply Blk.alloc | apply Blk.setRow | apply Blk.drewN | apply Blk.drew | (refine Blk.setRow_other ?_ ?_ _; focus (first | omega | (simp; omega))))))
    rw [← hwx]
    clear hwx
    have hg := hk.lt
    have D := Lib.hid hbx
    clear hbx
    go_upto_if 34 with (first
      | ((with_reducible apply l_loadw 49); (focus rfl); (focus (repeat (first | assumption | (apply Blk.newAt; (focus (simp; done))) | apply Blk.alloc | apply Blk.setRow | apply Blk.drewN | apply Blk.drew | (refine Blk.setRow_other ?_ ?_ _; focus (first | omega | (simp; omega)))))); (focus exact Try.underlying49); (focus rfl); (focus exact szState); (focus (first | exact omega | (first | omega | (simp; done) | (simp; omega) | assumption))); (try go_frame))
      | ((with_reducible apply o_loadw 49); (focus rfl); (focus (repeat (first | assumption | (apply Blk.newAt; (focus (simp; done))) | apply Blk.alloc | apply Blk.setRow | apply Blk.drewN | apply Blk.drew | (refine Blk.setRow_other ?_ ?_ _; focus (first | omega | (simp; omega)))))); (focus exact Try.underlying49); (focus rfl); (focus exact szState); (focus (first | omega | (simp; done) | (simp; omega) | assumption)); (try simp only [Act.put, List.setIfInBounds_toArray, List.set_cons_zero, List.set_cons_succ]))
      | (go_at_call 33; refine (rright_any cs L w.heap.size _ (by omega) ?_).mono ?_
         focus (exact (H.out.more hB).below D.out)
         rintro e w1 ⟨rfl, hb1⟩
         rw [R.out]
         have hk2 := Blk.below hk hb1 (by omega)
         have D2 := Lib.hid (D.out.trans (hb1.mono (by omega)))
         have hg2 := hk2.lt
         clear hk hb1 D hg
         have hk := hk2
         have D := D2
         have hg := hg2
         clear hk2 D2 hg2)
      | (go_at_call 20; refine (repoch_any cs HWf.out _).mono ?_
         rintro e w1 ⟨rfl, hb1⟩
         rw [HS33.out]
         have hk2 := Blk.below hk hb1 (by omega)
         have D2 := Lib.hid (D.out.trans (hb1.mono (by omega)))
         have hg2 := hk2.lt
         clear hk hb1 D hg
         have hk := hk2
         have D := D2
         have hg := hg2
         clear hk2 D2 hg2)
      | (go_at_call 21; refine (rbefore_any cs HWf.out _).mono ?_
         rintro e w1 ⟨rfl, hb1⟩
         rw [HS33.out]
         have hk2 := Blk.below hk hb1 (by omega)
         have D2 := Lib.hid (D.out.trans (hb1.mono (by omega)))
         have hg2 := hk2.lt
         clear hk hb1 D hg
         have hk := hk2
         have D := D2
         have hg := hg2
         clear hk2 D2 hg2))
    go_wp2
    go_ret2
    exact ⟨rfl, D.out⟩

end Go.Proofs.Ytikbkcidalippaa
