/-
  Sums of effective balances; pharosref13.Total, Actives, All: walked.
-/
import Derived.Test.YtikbkcidalippaaRUns
import Derived.Test.YtikbkcidalippaaEncDef
import Derived.Test.YtikbkcidalippaaReg
import Derived.IntWalk
namespace Go.Proofs.Ytikbkcidalippaa
open Go.RowKit
attribute [local irreducible] Hid Blk
set_option maxRecDepth 100000

/-- The sum of the effective balances of those in the list; of those below n that meet p. -/
def effL (v : List Value) : List Nat → Int
  | [] => 0
  | i :: r => lN v (86 * i + 80) + effL v r
def effTo (v : List Value) (p : Nat → Bool) : Nat → Int
  | 0 => 0
  | k + 1 => if p k = true then effTo v p k + lN v (86 * k + 80) else effTo v p k
/-- At least an increment. -/
def max1 (s : Int) : Int := if s < 1000000000 then 1000000000 else s
theorem effL_append (v : List Value) (a b : List Nat) : effL v (a ++ b) = effL v a + effL v b := by
  induction a with
  | nil => simp [effL]
  | cons i r ih => simp only [List.cons_append, effL, ih]; omega
theorem effL_filter (v : List Value) (p : Nat → Bool) : ∀ n, effL v ((List.range n).filter p) = effTo v p n
  | 0 => rfl
  | n + 1 => by
    rw [filter_range_succ, effL_append, effL_filter v p n]
    show _ = if p n = true then effTo v p n + lN v (86 * n + 80) else effTo v p n
    by_cases h : p n = true
    · rw [if_pos h, if_pos h]; simp [effL]
    · rw [if_neg h, if_neg h]; simp [effL]
theorem effL_snoc (v : List Value) (A : List Nat) {k : Nat} (h : k < A.length) : effL v (A.take (k + 1)) = effL v (A.take k) + lN v (86 * A[k] + 80) := by
  rw [List.take_succ_eq_append_getElem h, effL_append]
  simp [effL]
theorem effL_bound {v : List Value} {n : Nat} (hv : ∀ i, i < n → 0 ≤ lN v (86 * i + 80) ∧ lN v (86 * i + 80) ≤ 32000000000) : ∀ A : List Nat, (∀ i ∈ A, i < n) → 0 ≤ effL v A ∧ effL v A ≤ 32000000000 * (A.length : Int)
  | [], _ => by simp [effL]
  | i :: r, h => by
    have h1 := hv i (h i (List.mem_cons_self))
    have h2 := effL_bound hv r fun j hj => h j (List.mem_cons_of_mem _ hj)
    simp only [effL, List.length_cons, Int.natCast_add]
    omega
theorem effTo_bound {v : List Value} {n : Nat} (hv : ∀ i, i < n → 0 ≤ lN v (86 * i + 80) ∧ lN v (86 * i + 80) ≤ 32000000000) (p : Nat → Bool) : ∀ k, k ≤ n → 0 ≤ effTo v p k ∧ effTo v p k ≤ 32000000000 * (k : Int)
  | 0, _ => by simp [effTo]
  | k + 1, hk => by
    have h1 := hv k (by omega)
    have h2 := effTo_bound hv p k (by omega)
    unfold effTo
    split <;> omega
theorem max1_bound {s : Int} (h0 : 0 ≤ s) (h1 : s ≤ 2097152000000000) : 1000000000 ≤ max1 s ∧ max1 s ≤ 2097152000000000 := by
  unfold max1; split <;> omega
/-- What is known of the effective balances of a right state. -/
theorem eff_of {w : World} {B : Nat} {cs : Array Value} {L : Nat → List Value} (h : IsSt w B cs L) (hr : RightP cs L) : ∀ i, i < cnt L 721 → 0 ≤ lN (L 721) (86 * i + 80) ∧ lN (L 721) (86 * i + 80) ≤ 32000000000 := fun i hi => by
  have h1 := (val_of h hi).2.2.2.2.2.2.1
  exact ⟨h1, (hr.val i hi).1⟩

set_option maxHeartbeats 2000000 in
theorem rtotal_any (cs : Array Value) (L : Nat → List Value) (B : Nat) (w : World) (hB : B ≤ w.heap.size) (h : IsSt w B cs L) (hr : RightP cs L) (A : List Nat) (hA : ∀ i ∈ A, i < cnt L 721) (hAl : A.length ≤ 65536) (a : Option Addr) (c B2 : Nat) (hB2 : B2 ≤ w.heap.size) (hs : SlR w B2 1 8 a A.length c (nums A)) :
    Calls Try.prog 23 #[.agg cs, .slice a A.length c] w fun e w' => e = .returned (.int .u64 (max1 (effL (L 721) A))) ∧ Below w.heap.size w w' := by
  obtain ⟨av, nv, cv, h721, sv⟩ := h.sl 721 (by decide)
  have hl : (L 721).length = nv * 86 := sv.len
  have hc : cnt L 721 = nv := by unfold cnt; rw [hl]; exact Nat.mul_div_cancel _ (by decide)
  have hnv : nv ≤ 65536 := by have := hr.vals; omega
  have HV := Lib.hid (fun k (hk : k < nv) => val_of h (k := k) (by rw [hc]; exact hk))
  have hev := eff_of h hr
  rw [hc] at hev hA
  have HEv := Lib.hid hev
  have HAi := Lib.hid (fun k (hk : k < A.length) => hA A[k] (List.getElem_mem hk))
  have HBd := Lib.hid (fun k => effL_bound hev (A.take k) fun i hi => hA i (List.mem_of_mem_take hi))
  have HSn := Lib.hid (fun k (hk : k < A.length) => effL_snoc (L 721) A hk)
  have HSv := Lib.hid sv
  have HS := Lib.hid hs
  have hcm := Nat.le_trans hs.le hs.max
  clear h hr hA hev hs sv hl hc
  go_enter Try.func23, Try.ntmps23
  go_upto_region 1 with fail
  obtain ⟨wx, hwx⟩ : ∃ wx : World, wx = w.alloc (.cells cs 49) := ⟨_, rfl⟩
  have D0 : Hid (Below w.heap.size w wx) := Lib.hid (by rw [hwx]; exact (by (repeat (first | exact Below.refl _ _ | apply Below.drew | apply below_drewN | (refine Below.alloc ?_ ?_ _) | (refine below_setRow ?_ ?_ _) | (refine Below.setCell ?_ ?_ _) | (refine Below.trans ?_ (Below.mono (by assumption) ?_)) | omega | (focus (simp; done)) | (focus (simp; omega))))))
  have K0 : Hid (Blk wx w.heap.size 49 cs) := Lib.hid (by rw [hwx]; exact (by (repeat (first | assumption | (apply Blk.newAt; (focus (simp; done))) | apply Blk.alloc | apply Blk.setRow | apply Blk.drewN | apply Blk.drew | (refine Blk.setRow_other ?_ ?_ _; focus (first | omega | (simp; omega)))))))
  rw [← hwx]
  clear hwx
  have hg0 := K0.out.lt
  go_wp2
  go_loopw [5, 6] (fun s i wr => ∃ k : Nat, k ≤ A.length ∧ i = .int .i64 k ∧ s = .int .u64 (effL (L 721) (A.take k)) ∧ Hid (Below wx.heap.size wx wr) ∧ Hid (∀ p, wr.cell? p = wx.cell? p)) (fun _ i _ => A.length - (intOf i).toNat)
  case atStart => exact ⟨0, by omega, rfl, rfl, Lib.hid (Below.refl _ _), Lib.hid (fun _ => rfl)⟩
  case round =>
    obtain ⟨k, hk, rfl, rfl, hb, hc⟩ := hrel
    have hcell : ∀ i, wr.cell? ⟨w.heap.size, i, none⟩ = cs[i]? := fun i => (hc.out _).trans (K0.out.cell i)
    have hold : ∀ p : Addr, p.block < w.heap.size → wr.cell? p = w.cell? p := fun p hp => (hc.out p).trans (D0.out.cell hp)
    obtain ⟨bd0, bd1⟩ := HBd.out k
    rw [List.length_take, Nat.min_eq_left hk] at bd1
    by_cases hlt : k < A.length
    · have hai := HAi.out k hlt
      have hsn := HSn.out k hlt
      obtain ⟨ba, oa, rfl, hba, hca⟩ := HS.out.cells (by omega)
      have cA : wr.cell? ⟨ba, oa + k, none⟩ = some (.int .u64 (A[k] : Nat)) := (hold _ (by show ba < _; omega)).trans (hca _ _ (nums_get A hlt))
      obtain ⟨i, hi⟩ : ∃ i, i = A[k] := ⟨_, rfl⟩
      rw [← hi] at hai cA hsn
      clear hi hca
      obtain ⟨b, o, rfl, hbB, hcc⟩ := HSv.out.cells (by omega)
      have g80 := (HV.out i hai).2.2.2.1
      have c80 : wr.cell? ⟨b, o + i * 86 + 80, none⟩ = some (.int .u64 (lN (L 721) (86 * i + 80))) := by
        rw [show o + i * 86 + 80 = o + (86 * i + 80) by omega]; exact (hold _ (by show b < _; omega)).trans (hcc _ _ g80)
      obtain ⟨e0, e1⟩ := HEv.out i hai
      have HSN := Lib.hid hsn
      clear hold hcc g80 hsn
      generalize lN (L 721) (86 * i + 80) = e at *
      generalize effL (L 721) (A.take k) = S at *
      have hlt2 : (i : Int) < (nv : Int) := by omega
      have HW1 : Hid (IntKind.u64.wrap (nv : Int) = (nv : Int)) := Lib.hid (IntWalk.u64_in _ (by omega))
      have HW2 : Hid (IntKind.u64.wrap (S + e) = S + e) := Lib.hid (IntWalk.u64_in _ (by omega))
      go_upto_region 5 with fail
      have hw1 := HW1.out
      go_quiet (fail)
      clear hw1
      go_upto_region 6 with fail
      have hw2 := HW2.out
      go_quiet (fail)
      clear hw2
      go_wp2
      go_roundw
      case rel => first
        | exact ⟨k + 1, by omega, by go_num, by rw [HSN.out], Lib.hid (by repeat (first | exact hb.out | apply below_drewN)), hc⟩
        | ((repeat apply Exists.intro); exact ⟨⟨k + 1, by omega, by go_num, by rw [HSN.out], Lib.hid (by repeat (first | exact hb.out | apply below_drewN)), hc⟩, rfl⟩)
      case measure => simp [intOf]; omega
    · obtain rfl : k = A.length := by omega
      have e0 : A.take A.length = A := List.take_length
      rw [e0] at bd0 bd1 ⊢
      obtain ⟨S, hSe⟩ : ∃ S, S = effL (L 721) A := ⟨_, rfl⟩
      have HSe := Lib.hid hSe
      rw [← hSe] at bd0 bd1 ⊢
      clear hSe
      have DD := Lib.hid (D0.out.trans (hb.out.mono (by omega)))
      clear hcell hold e0
      by_cases hm : S < 1000000000
      · have hmx : Hid (max1 S = 1000000000) := Lib.hid (if_pos hm)
        go_wp2
        go_ret
        exact ⟨by rw [← HSe.out, hmx.out]; rfl, DD.out⟩
      · have hmx : Hid (max1 S = S) := Lib.hid (if_neg hm)
        go_wp2
        go_ret
        exact ⟨by rw [← HSe.out, hmx.out]; rfl, DD.out⟩

set_option maxHeartbeats 2000000 in
theorem ractives_any (cs : Array Value) (L : Nat → List Value) (B : Nat) (w : World) (hB : B ≤ w.heap.size) (h : IsSt w B cs L) (ep : Int) (hep : W64 ep) :
    Calls Try.prog 37 #[.agg cs, .int .u64 ep] w fun e w' => ∃ v, e = .returned v ∧ w'.ownsRow w.heap.size 22 1 v (actL (L 721) ep (cnt L 721)).length (nums (actL (L 721) ep (cnt L 721))) ∧ Below w.heap.size w w' := by
  obtain ⟨av, nv, cv, h721, sv⟩ := h.sl 721 (by decide)
  have hl : (L 721).length = nv * 86 := sv.len
  have hc : cnt L 721 = nv := by unfold cnt; rw [hl]; exact Nat.mul_div_cancel _ (by decide)
  rw [hc]
  have hn : nv ≤ 9223372036854775807 := Nat.le_trans sv.le sv.max
  have hrch := sv.reach
  have hrch2 : nv * 128 ≤ 140737488351232 := hrch
  clear hrch
  obtain ⟨z0, hz⟩ : ∃ z0, ((Try.prog.info? 22).map (fun i => (i.zero, i.size, i.bytes)) = some (some z0, 1, 8)) ∧ z0.cells.size = 1 := ⟨((Try.prog.info? 22).bind (·.zero)).getD undef, by kernel_rfl, by kernel_rfl⟩
  obtain ⟨i0, hi, hz0, hz1, hz2⟩ := info_parts hz.1
  have HI := Lib.hid (And.intro hi (And.intro hz0 (And.intro hz1 hz2)))
  have HZ := Lib.hid hz.2
  have HV := Lib.hid (fun k (hk : k < nv) => val_of h (k := k) (by rw [hc]; exact hk))
  have HS := Lib.hid sv
  have HO := Lib.hid (el_ones h 721 (by decide))
  have HE := Lib.hid hep
  obtain ⟨_, _⟩ := hep
  clear hi hz0 hz1 hz2 hz h sv hc hl
  go_enter Try.func37, Try.ntmps37
  go_wp2
  go_loopw [5, 6] (fun v i wr => ∃ k : Nat, k ≤ nv ∧ i = .int .i64 k ∧ Hid (wr.ownsRow (w.heap.size + 1) 22 1 v (actL (L 721) ep k).length (nums (actL (L 721) ep k))) ∧ Hid (Below w.heap.size w wr) ∧ Hid (Blk wr w.heap.size 49 cs) ∧ w.heap.size < wr.heap.size) (fun _ i _ => nv - (intOf i).toNat)
  case atStart => exact ⟨0, by omega, rfl, Lib.hid (World.ownsRow_nil _ _ _ _), Lib.hid (by (repeat (first | exact Below.refl _ _ | apply Below.drew | apply below_drewN | (refine Below.alloc ?_ ?_ _) | (refine below_setRow ?_ ?_ _) | (refine Below.setCell ?_ ?_ _) | (refine Below.trans ?_ (Below.mono (by assumption) ?_)) | omega | (focus (simp; done)) | (focus (simp; omega))))), Lib.hid (by (repeat (first | assumption | (apply Blk.newAt; (focus (simp; done))) | apply Blk.alloc | apply Blk.setRow | apply Blk.drewN | apply Blk.drew | (refine Blk.setRow_other ?_ ?_ _; focus (first | omega | (simp; omega)))))), by simp⟩
  case round =>
    obtain ⟨k, hk, rfl, ho, hbel, hblk, hgr⟩ := hrel
    have hcell := hblk.out.cell
    by_cases hlt : k < nv
    · obtain ⟨b, o, rfl, hbB, hr, hl⟩ := (HS.out.below (hbel.out.mono hB)).range hlt
      have Hrng : Hid (wr.rangeAt b (o + k * 86) (((L 721).drop (k * 86)).take 86)) := Lib.hid hr
      have Hlen : Hid ((((L 721).drop (k * 86)).take 86).length = 86) := Lib.hid hl
      obtain ⟨g83, g84, g81, g80, w83, w84, w80⟩ := HV.out k hlt
      have G83 : Hid ((((L 721).drop (k * 86)).take 86).toArray[83]? = some (.int .u64 (lN (L 721) (86 * k + 83)))) := Lib.hid (by rw [chunk_get (by decide), Nat.mul_comm]; exact g83)
      have G84 : Hid ((((L 721).drop (k * 86)).take 86).toArray[84]? = some (.int .u64 (lN (L 721) (86 * k + 84)))) := Lib.hid (by rw [chunk_get (by decide), Nat.mul_comm]; exact g84)
      have HA : Hid (actB (L 721) ep k = decide (lN (L 721) (86 * k + 83) ≤ ep ∧ ep < lN (L 721) (86 * k + 84))) := Lib.hid rfl
      clear hr hl g83 g84 g81 g80 w83 w84 w80
      have hlen := actL_len (L 721) ep k
      go_upto_if 20 with (first
        | ((with_reducible apply l_loadr 82); (focus rfl); (focus (repeat (first | exact Hrng.out | assumption | apply World.rangeAt_alloc))); (focus exact Try.underlying82); (focus rfl); (focus exact szVal); (focus exact Hlen.out); (try go_frame))
        | (go_at_call 34; refine (ractive_any _ ep _ _ G83.out G84.out _).mono ?_
           rintro e w1 ⟨rfl, hb1⟩
           rw [← HA.out]
           have ho1 := Lib.hid (own_blk ho.out hb1)
           have hbel1 := Lib.hid (hbel.out.trans (hb1.mono (by omega)))
           have hblk1 := Lib.hid (hblk.out.below hb1 (by omega))
           have hgr1 : w.heap.size < w1.heap.size := by have := hb1.size; omega
           clear hb1 hcell))
      generalize hab : actB (L 721) ep k = ab
      cases ab
      case true =>
        have HN := Lib.hid (actL_succ_yes hab)
        clear hab
        go_wp2_with ((at_builtin; (with_reducible apply l_append 37 (w.heap.size + 1)); (focus exact Try.underlying37); (focus exact HI.out.1); (focus exact HI.out.2.1); (focus exact HI.out.2.2.1); (focus exact HI.out.2.2.2); (focus (first | rfl | exact HZ.out)); (focus decide); (focus rfl); (focus exact (ho1.out.alloc _)); (focus rfl); (focus exact (slr_new (bytes := 8) _ _ _ (by decide))); (focus exact (by intro u hu; simp at hu; subst hu; rfl)); (focus (first | omega | (simp; omega))); (focus (first | omega | (simp; omega))); (focus (first | omega | (simp; done) | (simp; omega)))))
        intro v2 w2 hown hg
        have hb2 := Lib.hid (grown_below hbel1.out ho1.out (by omega) hg)
        have hk2 := Lib.hid (grown_blk hblk1.out ho1.out (by omega) hg)
        have ho2 : Hid (w2.ownsRow (w.heap.size + 1) 22 1 v2 (actL (L 721) ep (k + 1)).length (nums (actL (L 721) ep (k + 1)))) := Lib.hid (by rw [HN.out, nums_snoc, List.length_append]; exact hown)
        have hg2 := hk2.out.lt
        clear hown hg
        go_wp2
        go_roundw
        case rel => first
          | exact ⟨k + 1, by omega, by go_num, ho2, hb2, hk2, hg2⟩
          | ((repeat apply Exists.intro); exact ⟨⟨k + 1, by omega, by go_num, ho2, hb2, hk2, hg2⟩, rfl⟩)
        case measure => simp [intOf]; omega
      case false =>
        have HN : Hid (actL (L 721) ep (k + 1) = actL (L 721) ep k) := Lib.hid (actL_succ_no hab)
        clear hab
        go_wp2
        go_roundw
        case rel => first
          | exact ⟨k + 1, by omega, by go_num, by rw [HN.out]; exact ho1, hbel1, hblk1, hgr1⟩
          | ((repeat apply Exists.intro); exact ⟨⟨k + 1, by omega, by go_num, by rw [HN.out]; exact ho1, hbel1, hblk1, hgr1⟩, rfl⟩)
        case measure => simp [intOf]; omega
    · obtain rfl : k = nv := by omega
      go_wp2
      go_ret
      exact ⟨_, rfl, own_weak ho.out (by omega), hbel.out⟩

/-- What all active ones have. -/
def allOf (cs : Array Value) (L : Nat → List Value) : Int := max1 (effTo (L 721) (actB (L 721) (cN cs 33 / 4)) (cnt L 721))

set_option maxHeartbeats 2000000 in
theorem rall_any (cs : Array Value) (L : Nat → List Value) (B : Nat) (w : World) (hB : B ≤ w.heap.size) (h : IsSt w B cs L) (hr : RightP cs L) :
    Calls Try.prog 22 #[.agg cs] w fun e w' => e = .returned (.int .u64 (allOf cs L)) ∧ Below w.heap.size w w' := by
  have H := Lib.hid h
  have R := Lib.hid hr
  have HE : Hid (W64 (cN cs 33 / 4)) := Lib.hid (weigh_epoch h.wf)
  have hsz := Lib.hid h.wf.size
  have hA : ∀ i ∈ actL (L 721) (cN cs 33 / 4) (cnt L 721), i < cnt L 721 := fun i hi => List.mem_range.1 (List.mem_filter.1 hi).1
  have hAl : (actL (L 721) (cN cs 33 / 4) (cnt L 721)).length ≤ 65536 := Nat.le_trans (actL_len _ _ _) hr.vals
  have hF : max1 (effL (L 721) (actL (L 721) (cN cs 33 / 4) (cnt L 721))) = allOf cs L := by unfold actL allOf; rw [effL_filter]
  obtain ⟨A, hAe⟩ : ∃ A, A = actL (L 721) (cN cs 33 / 4) (cnt L 721) := ⟨_, rfl⟩
  rw [← hAe] at hA hAl hF
  have HAe := Lib.hid hAe.symm
  have HA := Lib.hid hA
  have HF := Lib.hid hF
  clear h hr hA hF hAe
  go_enter Try.func22, Try.ntmps22
  go_upto_region 1 with fail
  obtain ⟨wx, hwx⟩ : ∃ wx : World, wx = w.alloc (.cells cs 49) := ⟨_, rfl⟩
  have D0 : Hid (Below w.heap.size w wx) := Lib.hid (by rw [hwx]; exact (by (repeat (first | exact Below.refl _ _ | apply Below.drew | apply below_drewN | (refine Below.alloc ?_ ?_ _) | (refine below_setRow ?_ ?_ _) | (refine Below.setCell ?_ ?_ _) | (refine Below.trans ?_ (Below.mono (by assumption) ?_)) | omega | (focus (simp; done)) | (focus (simp; omega))))))
  have hk : Blk wx w.heap.size 49 cs := by rw [hwx]; exact (by (repeat (first | assumption | (apply Blk.newAt; (focus (simp; done))) | apply Blk.alloc | apply Blk.setRow | apply Blk.drewN | apply Blk.drew | (refine Blk.setRow_other ?_ ?_ _; focus (first | omega | (simp; omega))))))
  rw [← hwx]
  clear hwx
  have hg := hk.lt
  have hrefl : ∀ x : World, Below x.heap.size x x.drew := fun x => (Below.refl _ _).drew
  have HS : Hid (∀ w', Below wx.heap.size wx w' → w.heap.size ≤ w'.heap.size ∧ IsSt w' w.heap.size cs L) := Lib.hid fun w' hb => by
    have := hb.size
    exact ⟨by omega, ((H.out.more hB).below D0.out).below (hb.mono (by omega))⟩
  refine wp_region_held_drew (S := Below wx.heap.size wx) (by kernel_rfl) (hrefl _) (fun hHeld => ?_)
  (refine takeD 0 (some 3) (v := _) rfl rfl (by kernel_rfl) (by kernel_rfl) (by kernel_rfl) (fun _ _ _ h => h) (by assumption) (y_loadw 49 (by rfl) rfl rfl (fun w' h => hk.below h hg) Try.underlying49 rfl szState hsz.out) ?_; (try simp only [Act.put, List.setIfInBounds_toArray, List.set_cons_zero, List.set_cons_succ]))
  (refine takeD 1 (some 4) (v := _) rfl rfl (by kernel_rfl) (by kernel_rfl) (by kernel_rfl) (fun _ _ _ h => h) (by assumption) (y_loadw 49 (by rfl) rfl rfl (fun w' h => hk.below h hg) Try.underlying49 rfl szState hsz.out) ?_; (try simp only [Act.put, List.setIfInBounds_toArray, List.set_cons_zero, List.set_cons_succ]))
  (refine takeD 2 (some 5) (v := _) rfl rfl (by kernel_rfl) (by kernel_rfl) (by kernel_rfl) (fun _ _ _ h => h) (by assumption) (y_loadw 49 (by rfl) rfl rfl (fun w' h => hk.below h hg) Try.underlying49 rfl szState hsz.out) ?_; (try simp only [Act.put, List.setIfInBounds_toArray, List.set_cons_zero, List.set_cons_succ]))
  (refine wpAnyH_ready (rs := [3]) (by kernel_rfl) (by simp) ?_; refine AllReadyH.cons (o := _) rfl (fun K hK => ?_) AllReadyH.nil)
  refine s_call (some 6) 20 (by rfl) rfl rfl Try.func20 (by kernel_rfl) rfl (vs := [.agg cs]) rfl (repoch_any cs H.out.wf _) ?_
  rintro e w1 ⟨rfl, hb1⟩
  refine ⟨_, rfl, ?_⟩
  have hd1 := hHeld.trans (hb1.mono hHeld.size)
  refine hK.out _ _ hd1 (fun hHeld => ?_)
  (try simp only [Act.put, List.setIfInBounds_toArray, List.set_cons_zero, List.set_cons_succ])
  (refine wpAnyH_ready (rs := [4]) (by kernel_rfl) (by simp) ?_; refine AllReadyH.cons (o := _) rfl (fun K hK => ?_) AllReadyH.nil)
  refine s_call (some 7) 37 (by rfl) rfl rfl Try.func37 (by kernel_rfl) rfl (vs := [.agg cs, .int .u64 (cN cs 33 / 4)]) rfl (ractives_any cs L w.heap.size _ (HS.out _ hHeld).1 (HS.out _ hHeld).2 _ HE.out) ?_
  rintro e w2 ⟨v2, rfl, hown, hb2⟩
  rw [HAe.out] at hown
  obtain ⟨a2, c2, rfl⟩ := own_form hown
  have S2 := Lib.hid (SlR.own (bytes := 8) hown (by omega))
  refine ⟨_, rfl, ?_⟩
  have hd2 := hHeld.trans (hb2.mono hHeld.size)
  refine hK.out _ _ hd2 (fun hHeld => ?_)
  (try simp only [Act.put, List.setIfInBounds_toArray, List.set_cons_zero, List.set_cons_succ])
  (refine wpAnyH_ready (rs := [5]) (by kernel_rfl) (by simp) ?_; refine AllReadyH.cons (o := _) rfl (fun K hK => ?_) AllReadyH.nil)
  refine s_call (some 8) 23 (by rfl) rfl rfl Try.func23 (by kernel_rfl) rfl (vs := [.agg cs, .slice a2 A.length c2]) rfl (rtotal_any cs L w.heap.size _ (HS.out _ hHeld).1 (HS.out _ hHeld).2 R.out A HA.out hAl a2 c2 _ (Nat.le_refl _) S2.out) ?_
  rintro e w3 ⟨rfl, hb3⟩
  rw [HF.out]
  refine ⟨_, rfl, ?_⟩
  have hd3 := hHeld.trans (hb3.mono hHeld.size)
  refine hK.out _ _ hd3 (fun hHeld => ?_)
  (try simp only [Act.put, List.setIfInBounds_toArray, List.set_cons_zero, List.set_cons_succ])
  (refine takeD 6 (some 2) (v := ?_) rfl rfl (by kernel_rfl) (by kernel_rfl) (by kernel_rfl) (fun _ _ _ h => h) (by assumption) (Or.inl ⟨by rfl, ?_⟩) ?_; rotate_left; (focus (intro w' hS; skip; go_simp; (try (with_reducible rfl)); done)); (try simp only [Act.put, List.setIfInBounds_toArray, List.set_cons_zero, List.set_cons_succ]))
  refine wpAnyH_done (by kernel_rfl) ?_ _
  have DD := Lib.hid (D0.out.trans (hd3.mono (by omega)))
  clear hHeld hd1 hd2 hd3
  go_wp2_with fail
  go_ret
  exact ⟨rfl, DD.out⟩
end Go.Proofs.Ytikbkcidalippaa
