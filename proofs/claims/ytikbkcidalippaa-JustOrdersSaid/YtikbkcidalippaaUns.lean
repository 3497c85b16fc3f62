/-
  just.Unslashed: who has a flag, walked.
-/
import Derived.Test.YtikbkcidalippaaAct
import Derived.Test.YtikbkcidalippaaRightGo
namespace Go.Proofs.Ytikbkcidalippaa
open Go.RowKit
attribute [local irreducible] Hid Blk
set_option maxRecDepth 100000

theorem take_filter_succ (p : Nat → Bool) (l : List Nat) {k : Nat} (h : k < l.length) : (l.take (k + 1)).filter p = (l.take k).filter p ++ if p l[k] = true then [l[k]] else [] := by
  rw [List.take_succ_eq_append_getElem h, List.filter_append]
  congr 1
  by_cases hp : p l[k] = true
  · simp [hp]
  · simp [hp]
/-- Which list of flags an epoch's are. -/
def lstK (now ep : Int) : Nat := if ep = now then 988 else 987
theorem lstK_yes {now : Int} : lstK now now = 988 := if_pos rfl
theorem lstK_no {now ep : Int} (h : ep ≠ now) : lstK now ep = 987 := if_neg h

set_option maxHeartbeats 2000000 in
theorem uns_now (cs : Array Value) (L : Nat → List Value) (B : Nat) (w : World) (hB : B ≤ w.heap.size) (h : IsSt w B cs L) (hr : RightP cs L) (f : Nat) (hf : f < 3) (q : Int) (hep : W64 q) (he : q = cN cs 33 / 4) :
    Calls Try.prog 16 #[.agg cs, .int .i64 f, .int .u64 q] w fun e w' => ∃ v, e = .returned (.tuple #[v, .int .i64 0]) ∧
      w'.ownsRow w.heap.size 22 1 v (unsL (L 721) (L 988) q f (cnt L 721)).length (nums (unsL (L 721) (L 988) q f (cnt L 721))) ∧ Below w.heap.size w w' := by
  obtain ⟨av, nv, cv, h721, sv⟩ := h.sl 721 (by decide)
  obtain ⟨al, nl, cl, hls, sl⟩ := h.sl 988 (by decide)
  obtain ⟨al', nl', cl', hls', -⟩ := h.sl 987 (by decide)
  have hl : (L 721).length = nv * 86 := sv.len
  have hc : cnt L 721 = nv := by unfold cnt; rw [hl]; exact Nat.mul_div_cancel _ (by decide)
  have hll : (L 988).length = nl := by have := sl.len; simpa [esz] using this
  have hlc : nl = nv := by
    have : cnt L 988 = cnt L 721 := hr.cur
    rw [hc] at this
    rw [← this]; unfold cnt; rw [hll]; simp [esz]
  subst hlc
  have hnv : nl ≤ 65536 := by have := hr.vals; omega
  have HV := Lib.hid (fun k (hk : k < nl) => val_of h (k := k) (by rw [hc]; exact hk))
  have HF := Lib.hid (fun k (hk : k < nl) => h.eN8 988 k (by decide) rfl (by omega))
  obtain ⟨h33, w33a, w33b⟩ := h.wf.u64 33 rfl
  have hs1 := hr.slot
  obtain ⟨z0, hz⟩ : ∃ z0, ((Try.prog.info? 22).map (fun i => (i.zero, i.size, i.bytes)) = some (some z0, 1, 8)) ∧ z0.cells.size = 1 := ⟨((Try.prog.info? 22).bind (·.zero)).getD undef, by kernel_rfl, by kernel_rfl⟩
  obtain ⟨i0, hi, hz0, hz1, hz2⟩ := info_parts hz.1
  have HI := Lib.hid (And.intro hi (And.intro hz0 (And.intro hz1 hz2)))
  have HZ := Lib.hid hz.2
  have HSv := Lib.hid sv
  have HSl := Lib.hid sl
  have H := Lib.hid h
  have R := Lib.hid (rightB_yes hr)
  have HC := Lib.hid hc
  have HEp := Lib.hid hep
  have hsz1 : 1957 ≤ cs.size := Nat.le_of_eq h.wf.size.symm
  have hsz2 : cs.size ≤ 1957 := Nat.le_of_eq h.wf.size
  obtain ⟨_, _⟩ := hep
  rw [hc]
  clear hi hz0 hz1 hz2 hz sv sl h hr hc hl hll
  have f1 : decide ((f : Int) < 0) = false := decide_eq_false (by omega)
  have f2 : decide (2 < (f : Int)) = false := decide_eq_false (by omega)
  generalize cN cs 33 = s at *
  have m1 : (q != s / 4) = false := by rw [he]; exact bne_self_eq_false _
  have m2 : (q == s / 4) = true := by rw [he]; exact beq_self_eq_true _
  clear he
  go_enter Try.func16, Try.ntmps16
  go_upto_region 1 with fail
  obtain ⟨wx, hwx⟩ : ∃ wx : World, wx = w.alloc (.cells cs 49) := ⟨_, rfl⟩
  have hbx : Below w.heap.size w wx := by rw [hwx]; exact (by (repeat (first | exact Below.refl _ _ | apply Below.drew | apply below_drewN | (refine Below.alloc ?_ ?_ _) | (refine below_setRow ?_ ?_ _) | (refine Below.setCell ?_ ?_ _) | (refine Below.trans ?_ (Below.mono (by assumption) ?_)) | omega | (focus (simp; done)) | (focus (simp; omega)))))
  have hkx : Blk wx w.heap.size 49 cs := by rw [hwx]; exact (by (repeat (first | assumption | (apply Blk.newAt; (focus (simp; done))) | apply Blk.alloc | apply Blk.setRow | apply Blk.drewN | apply Blk.drew | (refine Blk.setRow_other ?_ ?_ _; focus (first | omega | (simp; omega))))))
  have hgx : w.heap.size < wx.heap.size := by rw [hwx]; simp
  rw [← hwx]
  clear hwx
  have Bx := Lib.hid hbx
  have hcell := hkx.cell
  go_upto_region 2 with fail
  clear hcell
  go_upto_region 8 with (first
    | ((with_reducible apply l_loadw 49); (focus rfl); (focus (repeat (first | assumption | (apply Blk.newAt; (focus (simp; done))) | apply Blk.alloc | apply Blk.setRow | apply Blk.drewN | apply Blk.drew | (refine Blk.setRow_other ?_ ?_ _; focus (first | omega | (simp; omega)))))); (focus exact Try.underlying49); (focus rfl); (focus exact szState); (focus (first | exact omega | (first | omega | (simp; done) | (simp; omega) | assumption))); (try go_frame))
    | (go_at_call 24; refine (right_any cs L w.heap.size _ (by omega) ?_).mono ?_
       focus (exact (H.out.more hB).below Bx.out)
       rintro e w1 ⟨rfl, hb1⟩
       rw [R.out]
       have hd1 : Below w.heap.size w w1 := Below.trans hbx (Below.mono hb1 (by omega))
       have hk1 : Blk w1 w.heap.size 49 cs := Blk.below hkx hb1 (by omega)
       have hg1 : w.heap.size < w1.heap.size := by have := hb1.size; omega
       have D1 := Lib.hid hd1
       clear hkx hbx hb1 hd1
       have hcell := hk1.cell)
)
  go_upto_region 9 with (first
    | ((with_reducible apply l_loadw 49); (focus rfl); (focus (repeat (first | assumption | (apply Blk.newAt; (focus (simp; done))) | apply Blk.alloc | apply Blk.setRow | apply Blk.drewN | apply Blk.drew | (refine Blk.setRow_other ?_ ?_ _; focus (first | omega | (simp; omega)))))); (focus exact Try.underlying49); (focus rfl); (focus exact szState); (focus (first | exact omega | (first | omega | (simp; done) | (simp; omega) | assumption))); (try go_frame))
    | (go_at_call 32; refine (actives_any cs L w.heap.size _ (by omega) ((H.out.more hB).below D1.out) q HEp.out).mono ?_
       rintro e w2 ⟨va, rfl, hown, hb2⟩
       rw [HC.out] at hown
       have hlen := actL_len (L 721) q nl
       obtain ⟨aa, ca, rfl⟩ := own_form hown
       have hsa : SlR w2 w2.heap.size 1 8 aa (actL (L 721) q nl).length ca (nums (actL (L 721) q nl)) := SlR.own hown (by omega)
       have HSa := Lib.hid hsa
       have hac := hsa.le
       have hcm := hsa.max
       have hg2 : w1.heap.size ≤ w2.heap.size := hb2.size
       have D2 := Lib.hid (D1.out.trans (hb2.mono (by omega)))
       have hk2 : Blk w2 w.heap.size 49 cs := Blk.below hk1 hb2 (by omega)
       clear hk1 hcell hown hsa hb2 D1))
  obtain ⟨A, hA⟩ : ∃ A, A = actL (L 721) q nl := ⟨_, rfl⟩
  have HU := Lib.hid (uns_of_act (L 721) (L 988) q f nl)
  have HAl := Lib.hid (fun k (hk : k < (actL (L 721) q nl).length) => (actL_lt hk).1)
  rw [← hA] at HU HAl HSa hlen hac
  rw [← hA]
  clear hA
  have HK2 := Lib.hid hk2
  clear hk2
  go_loopw [10, 49] (fun v i wr => ∃ k : Nat, k ≤ A.length ∧ i = .int .i64 k ∧ Hid (wr.ownsRow w2.heap.size 22 1 v ((A.take k).filter fun i => !slB (L 721) i && flB (L 988) f i).length (nums ((A.take k).filter fun i => !slB (L 721) i && flB (L 988) f i))) ∧ Hid (Below w2.heap.size w2 wr)) (fun _ i _ => A.length - (intOf i).toNat)
  case atStart => exact ⟨0, by omega, rfl, Lib.hid (World.ownsRow_nil _ _ _ _), Lib.hid (Below.refl _ _)⟩
  case round =>
    obtain ⟨k, hk, rfl, ho, hbel⟩ := hrel
    have hgr := hbel.out.size
    have hkr := HK2.out.below hbel.out (by omega)
    have hcell := hkr.cell
    by_cases hlt : k < A.length
    · obtain ⟨ba, oa, rfl, hba, hca⟩ := HSa.out.cells (by omega)
      have hai := HAl.out k hlt
      have cA : wr.cell? ⟨ba, oa + k, none⟩ = some (.int .u64 (A[k] : Nat)) := (hbel.out.cell (by show ba < _; omega)).trans (hca _ _ (nums_get A hlt))
      have HTF := Lib.hid (take_filter_succ (fun i => !slB (L 721) i && flB (L 988) f i) A hlt)
      obtain ⟨i, hi⟩ : ∃ i, i = A[k] := ⟨_, rfl⟩
      rw [← hi] at hai cA HTF
      clear hi hca
      obtain ⟨b, o, rfl, hbB, hcc⟩ := HSv.out.cells (by omega)
      obtain ⟨b2, o2, rfl, hbB2, hcc2⟩ := HSl.out.cells (by omega)
      have g81 := (HV.out i hai).2.2.1
      obtain ⟨gf, wf0, wf1⟩ := HF.out i hai
      have hfl := D2.out.size
      have hold : ∀ p : Addr, p.block < w.heap.size → wr.cell? p = w.cell? p := fun p hp => (hbel.out.cell (by omega)).trans (D2.out.cell hp)
      have c81 : wr.cell? ⟨b, o + i * 86 + 81, none⟩ = some (.bool (lB (L 721) (86 * i + 81))) := by
        rw [show o + i * 86 + 81 = o + (86 * i + 81) by omega]; exact (hold _ (by show b < _; omega)).trans (hcc _ _ g81)
      have cf : wr.cell? ⟨b2, o2 + i, none⟩ = some (.int .u8 (lN (L 988) i)) := (hold _ (by show b2 < _; omega)).trans (hcc2 _ _ gf)
      have hsb : slB (L 721) i = lB (L 721) (86 * i + 81) := rfl
      have hfb : flB (L 988) f i = bitB (lN (L 988) i) f := rfl
      rw [hsb, hfb] at HTF
      have hflen : ((A.take k).filter fun i => !slB (L 721) i && flB (L 988) f i).length ≤ A.length := Nat.le_trans (List.length_filter_le _ _) (by rw [List.length_take]; omega)
      clear hold hcc hcc2 g81 gf hsb hfb hfl
      generalize lB (L 721) (86 * i + 81) = sb at *
      generalize lN (L 988) i = x at *
      have HX := Lib.hid (show W8 x from ⟨wf0, wf1⟩)
      cases sb
      case true =>
        have hno : Hid ((A.take (k + 1)).filter (fun i => !slB (L 721) i && flB (L 988) f i) = (A.take k).filter fun i => !slB (L 721) i && flB (L 988) f i) := Lib.hid (by rw [HTF.out]; simp)
        clear HTF
        go_wp2
        go_roundw
        case rel => exact ⟨k + 1, by omega, by go_num, by rw [hno.out]; exact ho, hbel⟩
        case measure => simp [intOf]; omega
      case false =>
        have hfb2 : ∃ t, t = bitB x f := ⟨_, rfl⟩
        obtain ⟨tb, htb⟩ := hfb2
        rw [← htb] at HTF
        have HTB := Lib.hid htb.symm
        clear htb
        obtain rfl | rfl | rfl : f = 0 ∨ f = 1 ∨ f = 2 := by omega
        · have hbit : (bits BinOp.and IntKind.u8 x 1 != 0) = tb := by rw [← HTB.out]; exact bit_ne HX.out (by omega)
          cases tb
          case false =>
            have hno : Hid ((A.take (k + 1)).filter (fun i => !slB (L 721) i && flB (L 988) 0 i) = (A.take k).filter fun i => !slB (L 721) i && flB (L 988) 0 i) := Lib.hid (by rw [HTF.out]; simp)
            clear HTF
            go_wp2
            go_roundw
            case rel => exact ⟨k + 1, by omega, by go_num, by rw [hno.out]; exact ho, hbel⟩
            case measure => simp [intOf]; omega
          case true =>
            have hyes : Hid ((A.take (k + 1)).filter (fun i => !slB (L 721) i && flB (L 988) 0 i) = ((A.take k).filter fun i => !slB (L 721) i && flB (L 988) 0 i) ++ [i]) := Lib.hid (by rw [HTF.out]; simp)
            clear HTF
            go_wp2_with ((at_builtin; (with_reducible apply l_append 37 w2.heap.size); (focus exact Try.underlying37); (focus exact HI.out.1); (focus exact HI.out.2.1); (focus exact HI.out.2.2.1); (focus exact HI.out.2.2.2); (focus (first | rfl | exact HZ.out)); (focus decide); (focus rfl); (focus exact (ho.out.alloc _)); (focus rfl); (focus exact (slr_new (bytes := 8) _ _ _ (by decide))); (focus exact (by intro u hu; simp at hu; subst hu; rfl)); (focus (first | omega | (simp; omega))); (focus (first | omega | (simp; omega))); (focus (first | omega | (simp; done) | (simp; omega)))))
            intro v3 w3 hown3 hg3
            have hb3 := Lib.hid (grown_below hbel.out ho.out (Nat.le_refl _) hg3)
            have ho3 : Hid (w3.ownsRow w2.heap.size 22 1 v3 ((A.take (k + 1)).filter fun i => !slB (L 721) i && flB (L 988) 0 i).length (nums ((A.take (k + 1)).filter fun i => !slB (L 721) i && flB (L 988) 0 i))) := Lib.hid (by rw [hyes.out, nums_snoc, List.length_append]; exact hown3)
            clear hown3 hg3 hcell c81 cf cA
            go_wp2
            go_roundw
            case rel => ((repeat apply Exists.intro); exact ⟨⟨k + 1, by omega, by go_num, ho3, hb3⟩, rfl⟩)
            case measure => simp [intOf]; omega
        · have hbit : (bits BinOp.and IntKind.u8 (x / 2) 1 != 0) = tb := by rw [← HTB.out]; exact bit_ne HX.out (by omega)
          cases tb
          case false =>
            have hno : Hid ((A.take (k + 1)).filter (fun i => !slB (L 721) i && flB (L 988) 1 i) = (A.take k).filter fun i => !slB (L 721) i && flB (L 988) 1 i) := Lib.hid (by rw [HTF.out]; simp)
            clear HTF
            go_wp2
            go_roundw
            case rel => exact ⟨k + 1, by omega, by go_num, by rw [hno.out]; exact ho, hbel⟩
            case measure => simp [intOf]; omega
          case true =>
            have hyes : Hid ((A.take (k + 1)).filter (fun i => !slB (L 721) i && flB (L 988) 1 i) = ((A.take k).filter fun i => !slB (L 721) i && flB (L 988) 1 i) ++ [i]) := Lib.hid (by rw [HTF.out]; simp)
            clear HTF
            go_wp2_with ((at_builtin; (with_reducible apply l_append 37 w2.heap.size); (focus exact Try.underlying37); (focus exact HI.out.1); (focus exact HI.out.2.1); (focus exact HI.out.2.2.1); (focus exact HI.out.2.2.2); (focus (first | rfl | exact HZ.out)); (focus decide); (focus rfl); (focus exact (ho.out.alloc _)); (focus rfl); (focus exact (slr_new (bytes := 8) _ _ _ (by decide))); (focus exact (by intro u hu; simp at hu; subst hu; rfl)); (focus (first | omega | (simp; omega))); (focus (first | omega | (simp; omega))); (focus (first | omega | (simp; done) | (simp; omega)))))
            intro v3 w3 hown3 hg3
            have hb3 := Lib.hid (grown_below hbel.out ho.out (Nat.le_refl _) hg3)
            have ho3 : Hid (w3.ownsRow w2.heap.size 22 1 v3 ((A.take (k + 1)).filter fun i => !slB (L 721) i && flB (L 988) 1 i).length (nums ((A.take (k + 1)).filter fun i => !slB (L 721) i && flB (L 988) 1 i))) := Lib.hid (by rw [hyes.out, nums_snoc, List.length_append]; exact hown3)
            clear hown3 hg3 hcell c81 cf cA
            go_wp2
            go_roundw
            case rel => ((repeat apply Exists.intro); exact ⟨⟨k + 1, by omega, by go_num, ho3, hb3⟩, rfl⟩)
            case measure => simp [intOf]; omega
        · have hbit : (bits BinOp.and IntKind.u8 (x / 4) 1 != 0) = tb := by rw [← HTB.out]; exact bit_ne HX.out (by omega)
          cases tb
          case false =>
            have hno : Hid ((A.take (k + 1)).filter (fun i => !slB (L 721) i && flB (L 988) 2 i) = (A.take k).filter fun i => !slB (L 721) i && flB (L 988) 2 i) := Lib.hid (by rw [HTF.out]; simp)
            clear HTF
            go_wp2
            go_roundw
            case rel => exact ⟨k + 1, by omega, by go_num, by rw [hno.out]; exact ho, hbel⟩
            case measure => simp [intOf]; omega
          case true =>
            have hyes : Hid ((A.take (k + 1)).filter (fun i => !slB (L 721) i && flB (L 988) 2 i) = ((A.take k).filter fun i => !slB (L 721) i && flB (L 988) 2 i) ++ [i]) := Lib.hid (by rw [HTF.out]; simp)
            clear HTF
            go_wp2_with ((at_builtin; (with_reducible apply l_append 37 w2.heap.size); (focus exact Try.underlying37); (focus exact HI.out.1); (focus exact HI.out.2.1); (focus exact HI.out.2.2.1); (focus exact HI.out.2.2.2); (focus (first | rfl | exact HZ.out)); (focus decide); (focus rfl); (focus exact (ho.out.alloc _)); (focus rfl); (focus exact (slr_new (bytes := 8) _ _ _ (by decide))); (focus exact (by intro u hu; simp at hu; subst hu; rfl)); (focus (first | omega | (simp; omega))); (focus (first | omega | (simp; omega))); (focus (first | omega | (simp; done) | (simp; omega)))))
            intro v3 w3 hown3 hg3
            have hb3 := Lib.hid (grown_below hbel.out ho.out (Nat.le_refl _) hg3)
            have ho3 : Hid (w3.ownsRow w2.heap.size 22 1 v3 ((A.take (k + 1)).filter fun i => !slB (L 721) i && flB (L 988) 2 i).length (nums ((A.take (k + 1)).filter fun i => !slB (L 721) i && flB (L 988) 2 i))) := Lib.hid (by rw [hyes.out, nums_snoc, List.length_append]; exact hown3)
            clear hown3 hg3 hcell c81 cf cA
            go_wp2
            go_roundw
            case rel => ((repeat apply Exists.intro); exact ⟨⟨k + 1, by omega, by go_num, ho3, hb3⟩, rfl⟩)
            case measure => simp [intOf]; omega
    · obtain rfl : k = A.length := by omega
      have ho2 := ho.out
      rw [List.take_length, HU.out] at ho2
      have HO2 := Lib.hid ho2
      clear ho2 hlt hk
      go_wp2
      go_ret2
      exact ⟨_, rfl, own_weak HO2.out (by have := D2.out.size; omega), D2.out.trans (hbel.out.mono D2.out.size)⟩

set_option maxHeartbeats 2000000 in
theorem uns_prev (cs : Array Value) (L : Nat → List Value) (B : Nat) (w : World) (hB : B ≤ w.heap.size) (h : IsSt w B cs L) (hr : RightP cs L) (f : Nat) (hf : f < 3) (q : Int) (hep : W64 q) (he : q ≠ cN cs 33 / 4) (he2 : q = subz (cN cs 33 / 4) 1) :
    Calls Try.prog 16 #[.agg cs, .int .i64 f, .int .u64 q] w fun e w' => ∃ v, e = .returned (.tuple #[v, .int .i64 0]) ∧
      w'.ownsRow w.heap.size 22 1 v (unsL (L 721) (L 987) q f (cnt L 721)).length (nums (unsL (L 721) (L 987) q f (cnt L 721))) ∧ Below w.heap.size w w' := by
  obtain ⟨av, nv, cv, h721, sv⟩ := h.sl 721 (by decide)
  obtain ⟨al, nl, cl, hls, sl⟩ := h.sl 987 (by decide)
  obtain ⟨al', nl', cl', hls', -⟩ := h.sl 988 (by decide)
  have hl : (L 721).length = nv * 86 := sv.len
  have hc : cnt L 721 = nv := by unfold cnt; rw [hl]; exact Nat.mul_div_cancel _ (by decide)
  have hll : (L 987).length = nl := by have := sl.len; simpa [esz] using this
  have hlc : nl = nv := by
    have : cnt L 987 = cnt L 721 := hr.prev
    rw [hc] at this
    rw [← this]; unfold cnt; rw [hll]; simp [esz]
  subst hlc
  have hnv : nl ≤ 65536 := by have := hr.vals; omega
  have HV := Lib.hid (fun k (hk : k < nl) => val_of h (k := k) (by rw [hc]; exact hk))
  have HF := Lib.hid (fun k (hk : k < nl) => h.eN8 987 k (by decide) rfl (by omega))
  obtain ⟨h33, w33a, w33b⟩ := h.wf.u64 33 rfl
  have hs1 := hr.slot
  obtain ⟨z0, hz⟩ : ∃ z0, ((Try.prog.info? 22).map (fun i => (i.zero, i.size, i.bytes)) = some (some z0, 1, 8)) ∧ z0.cells.size = 1 := ⟨((Try.prog.info? 22).bind (·.zero)).getD undef, by kernel_rfl, by kernel_rfl⟩
  obtain ⟨i0, hi, hz0, hz1, hz2⟩ := info_parts hz.1
  have HI := Lib.hid (And.intro hi (And.intro hz0 (And.intro hz1 hz2)))
  have HZ := Lib.hid hz.2
  have HSv := Lib.hid sv
  have HSl := Lib.hid sl
  have H := Lib.hid h
  have R := Lib.hid (rightB_yes hr)
  have HC := Lib.hid hc
  have HEp := Lib.hid hep
  have hsz1 : 1957 ≤ cs.size := Nat.le_of_eq h.wf.size.symm
  have hsz2 : cs.size ≤ 1957 := Nat.le_of_eq h.wf.size
  obtain ⟨_, _⟩ := hep
  rw [hc]
  clear hi hz0 hz1 hz2 hz sv sl h hr hc hl hll
  have f1 : decide ((f : Int) < 0) = false := decide_eq_false (by omega)
  have f2 : decide (2 < (f : Int)) = false := decide_eq_false (by omega)
  generalize cN cs 33 = s at *
  have m1 : (q != s / 4) = true := bne_iff_ne.2 he
  have m2 : (q == s / 4) = false := beq_eq_false_iff_ne.2 he
  have m3 : (q != subz (s / 4) 1) = false := by rw [← he2]; exact bne_self_eq_false _
  have HE4 := Lib.hid (show W64 (s / 4) from ⟨by omega, by omega⟩)
  clear he he2
  go_enter Try.func16, Try.ntmps16
  go_upto_region 1 with fail
  obtain ⟨wx, hwx⟩ : ∃ wx : World, wx = w.alloc (.cells cs 49) := ⟨_, rfl⟩
  have hbx : Below w.heap.size w wx := by rw [hwx]; exact (by (repeat (first | exact Below.refl _ _ | apply Below.drew | apply below_drewN | (refine Below.alloc ?_ ?_ _) | (refine below_setRow ?_ ?_ _) | (refine Below.setCell ?_ ?_ _) | (refine Below.trans ?_ (Below.mono (by assumption) ?_)) | omega | (focus (simp; done)) | (focus (simp; omega)))))
  have hkx : Blk wx w.heap.size 49 cs := by rw [hwx]; exact (by (repeat (first | assumption | (apply Blk.newAt; (focus (simp; done))) | apply Blk.alloc | apply Blk.setRow | apply Blk.drewN | apply Blk.drew | (refine Blk.setRow_other ?_ ?_ _; focus (first | omega | (simp; omega))))))
  have hgx : w.heap.size < wx.heap.size := by rw [hwx]; simp
  rw [← hwx]
  clear hwx
  have Bx := Lib.hid hbx
  have hcell := hkx.cell
  go_upto_region 2 with fail
  clear hcell
  go_upto_region 8 with (first
    | ((with_reducible apply l_loadw 49); (focus rfl); (focus (repeat (first | assumption | (apply Blk.newAt; (focus (simp; done))) | apply Blk.alloc | apply Blk.setRow | apply Blk.drewN | apply Blk.drew | (refine Blk.setRow_other ?_ ?_ _; focus (first | omega | (simp; omega)))))); (focus exact Try.underlying49); (focus rfl); (focus exact szState); (focus (first | exact omega | (first | omega | (simp; done) | (simp; omega) | assumption))); (try go_frame))
    | (go_at_call 24; refine (right_any cs L w.heap.size _ (by omega) ?_).mono ?_
       focus (exact (H.out.more hB).below Bx.out)
       rintro e w1 ⟨rfl, hb1⟩
       rw [R.out]
       have hd1 : Below w.heap.size w w1 := Below.trans hbx (Below.mono hb1 (by omega))
       have hk1 : Blk w1 w.heap.size 49 cs := Blk.below hkx hb1 (by omega)
       have hg1 : w.heap.size < w1.heap.size := by have := hb1.size; omega
       have D1 := Lib.hid hd1
       clear hkx hbx hb1 hd1
       have hcell := hk1.cell)
    | (go_at_call 27; refine (less_any _ _ HE4.out ⟨by decide, by decide⟩ _).mono ?_; rintro e w' ⟨rfl, rfl⟩))
  go_upto_region 9 with (first
    | ((with_reducible apply l_loadw 49); (focus rfl); (focus (repeat (first | assumption | (apply Blk.newAt; (focus (simp; done))) | apply Blk.alloc | apply Blk.setRow | apply Blk.drewN | apply Blk.drew | (refine Blk.setRow_other ?_ ?_ _; focus (first | omega | (simp; omega)))))); (focus exact Try.underlying49); (focus rfl); (focus exact szState); (focus (first | exact omega | (first | omega | (simp; done) | (simp; omega) | assumption))); (try go_frame))
    | (go_at_call 32; refine (actives_any cs L w.heap.size _ (by omega) ((H.out.more hB).below D1.out) q HEp.out).mono ?_
       rintro e w2 ⟨va, rfl, hown, hb2⟩
       rw [HC.out] at hown
       have hlen := actL_len (L 721) q nl
       obtain ⟨aa, ca, rfl⟩ := own_form hown
       have hsa : SlR w2 w2.heap.size 1 8 aa (actL (L 721) q nl).length ca (nums (actL (L 721) q nl)) := SlR.own hown (by omega)
       have HSa := Lib.hid hsa
       have hac := hsa.le
       have hcm := hsa.max
       have hg2 : w1.heap.size ≤ w2.heap.size := hb2.size
       have D2 := Lib.hid (D1.out.trans (hb2.mono (by omega)))
       have hk2 : Blk w2 w.heap.size 49 cs := Blk.below hk1 hb2 (by omega)
       clear hk1 hcell hown hsa hb2 D1))
  obtain ⟨A, hA⟩ : ∃ A, A = actL (L 721) q nl := ⟨_, rfl⟩
  have HU := Lib.hid (uns_of_act (L 721) (L 987) q f nl)
  have HAl := Lib.hid (fun k (hk : k < (actL (L 721) q nl).length) => (actL_lt hk).1)
  rw [← hA] at HU HAl HSa hlen hac
  rw [← hA]
  clear hA
  have HK2 := Lib.hid hk2
  clear hk2
  go_loopw [10, 49] (fun v i wr => ∃ k : Nat, k ≤ A.length ∧ i = .int .i64 k ∧ Hid (wr.ownsRow w2.heap.size 22 1 v ((A.take k).filter fun i => !slB (L 721) i && flB (L 987) f i).length (nums ((A.take k).filter fun i => !slB (L 721) i && flB (L 987) f i))) ∧ Hid (Below w2.heap.size w2 wr)) (fun _ i _ => A.length - (intOf i).toNat)
  case atStart => exact ⟨0, by omega, rfl, Lib.hid (World.ownsRow_nil _ _ _ _), Lib.hid (Below.refl _ _)⟩
  case round =>
    obtain ⟨k, hk, rfl, ho, hbel⟩ := hrel
    have hgr := hbel.out.size
    have hkr := HK2.out.below hbel.out (by omega)
    have hcell := hkr.cell
    by_cases hlt : k < A.length
    · obtain ⟨ba, oa, rfl, hba, hca⟩ := HSa.out.cells (by omega)
      have hai := HAl.out k hlt
      have cA : wr.cell? ⟨ba, oa + k, none⟩ = some (.int .u64 (A[k] : Nat)) := (hbel.out.cell (by show ba < _; omega)).trans (hca _ _ (nums_get A hlt))
      have HTF := Lib.hid (take_filter_succ (fun i => !slB (L 721) i && flB (L 987) f i) A hlt)
      obtain ⟨i, hi⟩ : ∃ i, i = A[k] := ⟨_, rfl⟩
      rw [← hi] at hai cA HTF
      clear hi hca
      obtain ⟨b, o, rfl, hbB, hcc⟩ := HSv.out.cells (by omega)
      obtain ⟨b2, o2, rfl, hbB2, hcc2⟩ := HSl.out.cells (by omega)
      have g81 := (HV.out i hai).2.2.1
      obtain ⟨gf, wf0, wf1⟩ := HF.out i hai
      have hfl := D2.out.size
      have hold : ∀ p : Addr, p.block < w.heap.size → wr.cell? p = w.cell? p := fun p hp => (hbel.out.cell (by omega)).trans (D2.out.cell hp)
      have c81 : wr.cell? ⟨b, o + i * 86 + 81, none⟩ = some (.bool (lB (L 721) (86 * i + 81))) := by
        rw [show o + i * 86 + 81 = o + (86 * i + 81) by omega]; exact (hold _ (by show b < _; omega)).trans (hcc _ _ g81)
      have cf : wr.cell? ⟨b2, o2 + i, none⟩ = some (.int .u8 (lN (L 987) i)) := (hold _ (by show b2 < _; omega)).trans (hcc2 _ _ gf)
      have hsb : slB (L 721) i = lB (L 721) (86 * i + 81) := rfl
      have hfb : flB (L 987) f i = bitB (lN (L 987) i) f := rfl
      rw [hsb, hfb] at HTF
      have hflen : ((A.take k).filter fun i => !slB (L 721) i && flB (L 987) f i).length ≤ A.length := Nat.le_trans (List.length_filter_le _ _) (by rw [List.length_take]; omega)
      clear hold hcc hcc2 g81 gf hsb hfb hfl
      generalize lB (L 721) (86 * i + 81) = sb at *
      generalize lN (L 987) i = x at *
      have HX := Lib.hid (show W8 x from ⟨wf0, wf1⟩)
      cases sb
      case true =>
        have hno : Hid ((A.take (k + 1)).filter (fun i => !slB (L 721) i && flB (L 987) f i) = (A.take k).filter fun i => !slB (L 721) i && flB (L 987) f i) := Lib.hid (by rw [HTF.out]; simp)
        clear HTF
        go_wp2
        go_roundw
        case rel => exact ⟨k + 1, by omega, by go_num, by rw [hno.out]; exact ho, hbel⟩
        case measure => simp [intOf]; omega
      case false =>
        have hfb2 : ∃ t, t = bitB x f := ⟨_, rfl⟩
        obtain ⟨tb, htb⟩ := hfb2
        rw [← htb] at HTF
        have HTB := Lib.hid htb.symm
        clear htb
        obtain rfl | rfl | rfl : f = 0 ∨ f = 1 ∨ f = 2 := by omega
        · have hbit : (bits BinOp.and IntKind.u8 x 1 != 0) = tb := by rw [← HTB.out]; exact bit_ne HX.out (by omega)
          cases tb
          case false =>
            have hno : Hid ((A.take (k + 1)).filter (fun i => !slB (L 721) i && flB (L 987) 0 i) = (A.take k).filter fun i => !slB (L 721) i && flB (L 987) 0 i) := Lib.hid (by rw [HTF.out]; simp)
            clear HTF
            go_wp2
            go_roundw
            case rel => exact ⟨k + 1, by omega, by go_num, by rw [hno.out]; exact ho, hbel⟩
            case measure => simp [intOf]; omega
          case true =>
            have hyes : Hid ((A.take (k + 1)).filter (fun i => !slB (L 721) i && flB (L 987) 0 i) = ((A.take k).filter fun i => !slB (L 721) i && flB (L 987) 0 i) ++ [i]) := Lib.hid (by rw [HTF.out]; simp)
            clear HTF
            go_wp2_with ((at_builtin; (with_reducible apply l_append 37 w2.heap.size); (focus exact Try.underlying37); (focus exact HI.out.1); (focus exact HI.out.2.1); (focus exact HI.out.2.2.1); (focus exact HI.out.2.2.2); (focus (first | rfl | exact HZ.out)); (focus decide); (focus rfl); (focus exact (ho.out.alloc _)); (focus rfl); (focus exact (slr_new (bytes := 8) _ _ _ (by decide))); (focus exact (by intro u hu; simp at hu; subst hu; rfl)); (focus (first | omega | (simp; omega))); (focus (first | omega | (simp; omega))); (focus (first | omega | (simp; done) | (simp; omega)))))
            intro v3 w3 hown3 hg3
            have hb3 := Lib.hid (grown_below hbel.out ho.out (Nat.le_refl _) hg3)
            have ho3 : Hid (w3.ownsRow w2.heap.size 22 1 v3 ((A.take (k + 1)).filter fun i => !slB (L 721) i && flB (L 987) 0 i).length (nums ((A.take (k + 1)).filter fun i => !slB (L 721) i && flB (L 987) 0 i))) := Lib.hid (by rw [hyes.out, nums_snoc, List.length_append]; exact hown3)
            clear hown3 hg3 hcell c81 cf cA
            go_wp2
            go_roundw
            case rel => ((repeat apply Exists.intro); exact ⟨⟨k + 1, by omega, by go_num, ho3, hb3⟩, rfl⟩)
            case measure => simp [intOf]; omega
        · have hbit : (bits BinOp.and IntKind.u8 (x / 2) 1 != 0) = tb := by rw [← HTB.out]; exact bit_ne HX.out (by omega)
          cases tb
          case false =>
            have hno : Hid ((A.take (k + 1)).filter (fun i => !slB (L 721) i && flB (L 987) 1 i) = (A.take k).filter fun i => !slB (L 721) i && flB (L 987) 1 i) := Lib.hid (by rw [HTF.out]; simp)
            clear HTF
            go_wp2
            go_roundw
            case rel => exact ⟨k + 1, by omega, by go_num, by rw [hno.out]; exact ho, hbel⟩
            case measure => simp [intOf]; omega
          case true =>
            have hyes : Hid ((A.take (k + 1)).filter (fun i => !slB (L 721) i && flB (L 987) 1 i) = ((A.take k).filter fun i => !slB (L 721) i && flB (L 987) 1 i) ++ [i]) := Lib.hid (by rw [HTF.out]; simp)
            clear HTF
            go_wp2_with ((at_builtin; (with_reducible apply l_append 37 w2.heap.size); (focus exact Try.underlying37); (focus exact HI.out.1); (focus exact HI.out.2.1); (focus exact HI.out.2.2.1); (focus exact HI.out.2.2.2); (focus (first | rfl | exact HZ.out)); (focus decide); (focus rfl); (focus exact (ho.out.alloc _)); (focus rfl); (focus exact (slr_new (bytes := 8) _ _ _ (by decide))); (focus exact (by intro u hu; simp at hu; subst hu; rfl)); (focus (first | omega | (simp; omega))); (focus (first | omega | (simp; omega))); (focus (first | omega | (simp; done) | (simp; omega)))))
            intro v3 w3 hown3 hg3
            have hb3 := Lib.hid (grown_below hbel.out ho.out (Nat.le_refl _) hg3)
            have ho3 : Hid (w3.ownsRow w2.heap.size 22 1 v3 ((A.take (k + 1)).filter fun i => !slB (L 721) i && flB (L 987) 1 i).length (nums ((A.take (k + 1)).filter fun i => !slB (L 721) i && flB (L 987) 1 i))) := Lib.hid (by rw [hyes.out, nums_snoc, List.length_append]; exact hown3)
            clear hown3 hg3 hcell c81 cf cA
            go_wp2
            go_roundw
            case rel => ((repeat apply Exists.intro); exact ⟨⟨k + 1, by omega, by go_num, ho3, hb3⟩, rfl⟩)
            case measure => simp [intOf]; omega
        · have hbit : (bits BinOp.and IntKind.u8 (x / 4) 1 != 0) = tb := by rw [← HTB.out]; exact bit_ne HX.out (by omega)
          cases tb
          case false =>
            have hno : Hid ((A.take (k + 1)).filter (fun i => !slB (L 721) i && flB (L 987) 2 i) = (A.take k).filter fun i => !slB (L 721) i && flB (L 987) 2 i) := Lib.hid (by rw [HTF.out]; simp)
            clear HTF
            go_wp2
            go_roundw
            case rel => exact ⟨k + 1, by omega, by go_num, by rw [hno.out]; exact ho, hbel⟩
            case measure => simp [intOf]; omega
          case true =>
            have hyes : Hid ((A.take (k + 1)).filter (fun i => !slB (L 721) i && flB (L 987) 2 i) = ((A.take k).filter fun i => !slB (L 721) i && flB (L 987) 2 i) ++ [i]) := Lib.hid (by rw [HTF.out]; simp)
            clear HTF
            go_wp2_with ((at_builtin; (with_reducible apply l_append 37 w2.heap.size); (focus exact Try.underlying37); (focus exact HI.out.1); (focus exact HI.out.2.1); (focus exact HI.out.2.2.1); (focus exact HI.out.2.2.2); (focus (first | rfl | exact HZ.out)); (focus decide); (focus rfl); (focus exact (ho.out.alloc _)); (focus rfl); (focus exact (slr_new (bytes := 8) _ _ _ (by decide))); (focus exact (by intro u hu; simp at hu; subst hu; rfl)); (focus (first | omega | (simp; omega))); (focus (first | omega | (simp; omega))); (focus (first | omega | (simp; done) | (simp; omega)))))
            intro v3 w3 hown3 hg3
            have hb3 := Lib.hid (grown_below hbel.out ho.out (Nat.le_refl _) hg3)
            have ho3 : Hid (w3.ownsRow w2.heap.size 22 1 v3 ((A.take (k + 1)).filter fun i => !slB (L 721) i && flB (L 987) 2 i).length (nums ((A.take (k + 1)).filter fun i => !slB (L 721) i && flB (L 987) 2 i))) := Lib.hid (by rw [hyes.out, nums_snoc, List.length_append]; exact hown3)
            clear hown3 hg3 hcell c81 cf cA
            go_wp2
            go_roundw
            case rel => ((repeat apply Exists.intro); exact ⟨⟨k + 1, by omega, by go_num, ho3, hb3⟩, rfl⟩)
            case measure => simp [intOf]; omega
    · obtain rfl : k = A.length := by omega
      have ho2 := ho.out
      rw [List.take_length, HU.out] at ho2
      have HO2 := Lib.hid ho2
      clear ho2 hlt hk
      go_wp2
      go_ret2
      exact ⟨_, rfl, own_weak HO2.out (by have := D2.out.size; omega), D2.out.trans (hbel.out.mono D2.out.size)⟩

theorem uns_any (cs : Array Value) (L : Nat → List Value) (B : Nat) (w : World) (hB : B ≤ w.heap.size) (h : IsSt w B cs L) (hr : RightP cs L) (f : Nat) (hf : f < 3) (q : Int) (hep : W64 q) (hq : q = cN cs 33 / 4 ∨ q = subz (cN cs 33 / 4) 1) :
    Calls Try.prog 16 #[.agg cs, .int .i64 f, .int .u64 q] w fun e w' => ∃ v, e = .returned (.tuple #[v, .int .i64 0]) ∧
      w'.ownsRow w.heap.size 22 1 v (unsL (L 721) (L (lstK (cN cs 33 / 4) q)) q f (cnt L 721)).length (nums (unsL (L 721) (L (lstK (cN cs 33 / 4) q)) q f (cnt L 721))) ∧ Below w.heap.size w w' := by
  by_cases he : q = cN cs 33 / 4
  · have e : lstK (cN cs 33 / 4) q = 988 := if_pos he
    rw [e]
    exact uns_now cs L B w hB h hr f hf q hep he
  · have e : lstK (cN cs 33 / 4) q = 987 := if_neg he
    rw [e]
    exact uns_prev cs L B w hB h hr f hf q hep he (by rcases hq with h | h; exact absurd h he; exact h)

set_option maxHeartbeats 2000000 in
theorem uns_err (cs : Array Value) (L : Nat → List Value) (B : Nat) (w : World) (hB : B ≤ w.heap.size) (h : IsSt w B cs L) (fl q : Int) (hno : ¬ (RightP cs L ∧ 0 ≤ fl ∧ fl < 3 ∧ (q = cN cs 33 / 4 ∨ q = subz (cN cs 33 / 4) 1))) :
    Calls Try.prog 16 #[.agg cs, .int .i64 fl, .int .u64 q] w fun e w' => e = .returned (.tuple #[.slice none 0 0, .int .i64 1]) ∧ Below w.heap.size w w' := by
  obtain ⟨h33, w33a, w33b⟩ := h.wf.u64 33 rfl
  have H := Lib.hid h
  have hsz1 : 1957 ≤ cs.size := Nat.le_of_eq h.wf.size.symm
  have hsz2 : cs.size ≤ 1957 := Nat.le_of_eq h.wf.size
  have HN := Lib.hid hno
  obtain ⟨r, hr⟩ : ∃ r, r = rightB cs L := ⟨_, rfl⟩
  have R := Lib.hid hr.symm
  clear h hno hr
  generalize cN cs 33 = s at *
  have HE4 := Lib.hid (show W64 (s / 4) from ⟨by omega, by omega⟩)
  by_cases c1 : RightP cs L
  case neg =>
    obtain rfl : r = false := by rw [← R.out]; exact rightB_no c1
    clear c1
    go_enter Try.func16, Try.ntmps16
    go_upto_region 1 with fail
    obtain ⟨wx, hwx⟩ : ∃ wx : World, wx = w.alloc (.cells cs 49) := ⟨_, rfl⟩
    have hbx : Below w.heap.size w wx := by rw [hwx]; exact (by (repeat (first | exact Below.refl _ _ | apply Below.drew | apply below_drewN | (refine Below.alloc ?_ ?_ _) | (refine below_setRow ?_ ?_ _) | (refine Below.setCell ?_ ?_ _) | (refine Below.trans ?_ (Below.mono (by assumption) ?_)) | omega | (focus (simp; done)) | (focus (simp; omega)))))
    have hkx : Blk wx w.heap.size 49 cs := by rw [hwx]; exact (by (repeat (first | assumption | (apply Blk.newAt; (focus (simp; done))) | apply Blk.alloc | apply Blk.setRow | apply Blk.drewN | apply Blk.drew | (refine Blk.setRow_other ?_ ?_ _; focus (first | omega | (simp; omega))))))
    have hgx : w.heap.size < wx.heap.size := by rw [hwx]; simp
    rw [← hwx]
    clear hwx
    have Bx := Lib.hid hbx
    have hcell := hkx.cell
    go_upto_region 2 with fail
    clear hcell
    go_wp2_with (first
      | ((with_reducible apply l_loadw 49); (focus rfl); (focus (repeat (first | assumption | (apply Blk.newAt; (focus (simp; done))) | apply Blk.alloc | apply Blk.setRow | apply Blk.drewN | apply Blk.drew | (refine Blk.setRow_other ?_ ?_ _; focus (first | omega | (simp; omega)))))); (focus exact Try.underlying49); (focus rfl); (focus exact szState); (focus (first | exact omega | (first | omega | (simp; done) | (simp; omega) | assumption))); (try go_frame))
      | (go_at_call 24; refine (right_any cs L w.heap.size _ (by omega) ?_).mono ?_
         focus (exact (H.out.more hB).below Bx.out)
         rintro e w1 ⟨rfl, hb1⟩
         rw [R.out]
         have D1 := Lib.hid (Below.trans hbx (Below.mono hb1 (by omega)))
         clear hkx hbx hb1)
      | (go_at_call 27; refine (less_any _ _ HE4.out ⟨by decide, by decide⟩ _).mono ?_; rintro e w' ⟨rfl, rfl⟩))
    go_ret2
    exact ⟨rfl, D1.out⟩
  obtain rfl : r = true := by rw [← R.out]; exact rightB_yes c1
  by_cases c2 : fl < 0
  · have d1 : decide (fl < 0) = true := decide_eq_true c2
    clear c1 c2
    go_enter Try.func16, Try.ntmps16
    go_upto_region 1 with fail
    obtain ⟨wx, hwx⟩ : ∃ wx : World, wx = w.alloc (.cells cs 49) := ⟨_, rfl⟩
    have hbx : Below w.heap.size w wx := by rw [hwx]; exact (by (repeat (first | exact Below.refl _ _ | apply Below.drew | apply below_drewN | (refine Below.alloc ?_ ?_ _) | (refine below_setRow ?_ ?_ _) | (refine Below.setCell ?_ ?_ _) | (refine Below.trans ?_ (Below.mono (by assumption) ?_)) | omega | (focus (simp; done)) | (focus (simp; omega)))))
    have hkx : Blk wx w.heap.size 49 cs := by rw [hwx]; exact (by (repeat (first | assumption | (apply Blk.newAt; (focus (simp; done))) | apply Blk.alloc | apply Blk.setRow | apply Blk.drewN | apply Blk.drew | (refine Blk.setRow_other ?_ ?_ _; focus (first | omega | (simp; omega))))))
    have hgx : w.heap.size < wx.heap.size := by rw [hwx]; simp
    rw [← hwx]
    clear hwx
    have Bx := Lib.hid hbx
    have hcell := hkx.cell
    go_upto_region 2 with fail
    clear hcell
    go_wp2_with (first
      | ((with_reducible apply l_loadw 49); (focus rfl); (focus (repeat (first | assumption | (apply Blk.newAt; (focus (simp; done))) | apply Blk.alloc | apply Blk.setRow | apply Blk.drewN | apply Blk.drew | (refine Blk.setRow_other ?_ ?_ _; focus (first | omega | (simp; omega)))))); (focus exact Try.underlying49); (focus rfl); (focus exact szState); (focus (first | exact omega | (first | omega | (simp; done) | (simp; omega) | assumption))); (try go_frame))
      | (go_at_call 24; refine (right_any cs L w.heap.size _ (by omega) ?_).mono ?_
         focus (exact (H.out.more hB).below Bx.out)
         rintro e w1 ⟨rfl, hb1⟩
         rw [R.out]
         have D1 := Lib.hid (Below.trans hbx (Below.mono hb1 (by omega)))
         clear hkx hbx hb1)
      | (go_at_call 27; refine (less_any _ _ HE4.out ⟨by decide, by decide⟩ _).mono ?_; rintro e w' ⟨rfl, rfl⟩))
    go_ret2
    exact ⟨rfl, D1.out⟩
  have d1 : decide (fl < 0) = false := decide_eq_false c2
  by_cases c3 : 2 < fl
  · have d2 : decide (2 < fl) = true := decide_eq_true c3
    clear c1 c2
    go_enter Try.func16, Try.ntmps16
    go_upto_region 1 with fail
    obtain ⟨wx, hwx⟩ : ∃ wx : World, wx = w.alloc (.cells cs 49) := ⟨_, rfl⟩
    have hbx : Below w.heap.size w wx := by rw [hwx]; exact (by (repeat (first | exact Below.refl _ _ | apply Below.drew | apply below_drewN | (refine Below.alloc ?_ ?_ _) | (refine below_setRow ?_ ?_ _) | (refine Below.setCell ?_ ?_ _) | (refine Below.trans ?_ (Below.mono (by assumption) ?_)) | omega | (focus (simp; done)) | (focus (simp; omega)))))
    have hkx : Blk wx w.heap.size 49 cs := by rw [hwx]; exact (by (repeat (first | assumption | (apply Blk.newAt; (focus (simp; done))) | apply Blk.alloc | apply Blk.setRow | apply Blk.drewN | apply Blk.drew | (refine Blk.setRow_other ?_ ?_ _; focus (first | omega | (simp; omega))))))
    have hgx : w.heap.size < wx.heap.size := by rw [hwx]; simp
    rw [← hwx]
    clear hwx
    have Bx := Lib.hid hbx
    have hcell := hkx.cell
    go_upto_region 2 with fail
    clear hcell
    go_wp2_with (first
      | ((with_reducible apply l_loadw 49); (focus rfl); (focus (repeat (first | assumption | (apply Blk.newAt; (focus (simp; done))) | apply Blk.alloc | apply Blk.setRow | apply Blk.drewN | apply Blk.drew | (refine Blk.setRow_other ?_ ?_ _; focus (first | omega | (simp; omega)))))); (focus exact Try.underlying49); (focus rfl); (focus exact szState); (focus (first | exact omega | (first | omega | (simp; done) | (simp; omega) | assumption))); (try go_frame))
      | (go_at_call 24; refine (right_any cs L w.heap.size _ (by omega) ?_).mono ?_
         focus (exact (H.out.more hB).below Bx.out)
         rintro e w1 ⟨rfl, hb1⟩
         rw [R.out]
         have D1 := Lib.hid (Below.trans hbx (Below.mono hb1 (by omega)))
         clear hkx hbx hb1)
      | (go_at_call 27; refine (less_any _ _ HE4.out ⟨by decide, by decide⟩ _).mono ?_; rintro e w' ⟨rfl, rfl⟩))
    go_ret2
    exact ⟨rfl, D1.out⟩
  have d2 : decide (2 < fl) = false := decide_eq_false c3
  have m1 : (q != s / 4) = true := bne_iff_ne.2 fun h => HN.out ⟨c1, by omega, by omega, .inl h⟩
  have m3 : (q != subz (s / 4) 1) = true := bne_iff_ne.2 fun h => HN.out ⟨c1, by omega, by omega, .inr h⟩
  clear c1 c2 c3
  case _ =>
    go_enter Try.func16, Try.ntmps16
    go_upto_region 1 with fail
    obtain ⟨wx, hwx⟩ : ∃ wx : World, wx = w.alloc (.cells cs 49) := ⟨_, rfl⟩
    have hbx : Below w.heap.size w wx := by rw [hwx]; exact (by (repeat (first | exact Below.refl _ _ | apply Below.drew | apply below_drewN | (refine Below.alloc ?_ ?_ _) | (refine below_setRow ?_ ?_ _) | (refine Below.setCell ?_ ?_ _) | (refine Below.trans ?_ (Below.mono (by assumption) ?_)) | omega | (focus (simp; done)) | (focus (simp; omega)))))
    have hkx : Blk wx w.heap.size 49 cs := by rw [hwx]; exact (by (repeat (first | assumption | (apply Blk.newAt; (focus (simp; done))) | apply Blk.alloc | apply Blk.setRow | apply Blk.drewN | apply Blk.drew | (refine Blk.setRow_other ?_ ?_ _; focus (first | omega | (simp; omega))))))
    have hgx : w.heap.size < wx.heap.size := by rw [hwx]; simp
    rw [← hwx]
    clear hwx
    have Bx := Lib.hid hbx
    have hcell := hkx.cell
    go_upto_region 2 with fail
    clear hcell
    go_wp2_with (first
      | ((with_reducible apply l_loadw 49); (focus rfl); (focus (repeat (first | assumption | (apply Blk.newAt; (focus (simp; done))) | apply Blk.alloc | apply Blk.setRow | apply Blk.drewN | apply Blk.drew | (refine Blk.setRow_other ?_ ?_ _; focus (first | omega | (simp; omega)))))); (focus exact Try.underlying49); (focus rfl); (focus exact szState); (focus (first | exact omega | (first | omega | (simp; done) | (simp; omega) | assumption))); (try go_frame))
      | (go_at_call 24; refine (right_any cs L w.heap.size _ (by omega) ?_).mono ?_
         focus (exact (H.out.more hB).below Bx.out)
         rintro e w1 ⟨rfl, hb1⟩
         rw [R.out]
         have D1 := Lib.hid (Below.trans hbx (Below.mono hb1 (by omega)))
         clear hkx hbx hb1)
      | (go_at_call 27; refine (less_any _ _ HE4.out ⟨by decide, by decide⟩ _).mono ?_; rintro e w' ⟨rfl, rfl⟩))
    go_ret2
    exact ⟨rfl, D1.out⟩

end Go.Proofs.Ytikbkcidalippaa
