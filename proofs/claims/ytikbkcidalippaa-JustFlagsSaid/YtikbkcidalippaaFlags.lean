/-
  pharosref12.Same on two lists that read alike; JustFlags walked: it answers yes.
-/
import Derived.Test.YtikbkcidalippaaRUns
import Derived.Test.YtikbkcidalippaaAwake
import Derived.Deep.QuietTactic
import Derived.BigQuiet
namespace Go.Proofs.Ytikbkcidalippaa
open Go.RowKit
attribute [local irreducible] Hid Blk
set_option maxRecDepth 100000

set_option maxHeartbeats 1000000 in
theorem same_yes (a1 a2 : Option Addr) (n c1 c2 B1 B2 : Nat) (xs : List Value) (w : World) (h1 : SlR w B1 1 8 a1 n c1 xs) (h2 : SlR w B2 1 8 a2 n c2 xs) (hk : ∀ (j : Nat) u, xs[j]? = some u → CK.u64.ok u) :
    Calls Try.prog 18 #[.slice a1 n c1, .slice a2 n c2] w fun e w' => e = .returned (.bool true) ∧ Below w.heap.size w w' := by
  have hn : n ≤ 9223372036854775807 := Nat.le_trans h1.le h1.max
  have hl : xs.length = n := by simpa using h1.len
  have HL := Lib.hid hl
  have H1 := Lib.hid h1
  have H2 := Lib.hid h2
  have HK := Lib.hid hk
  clear h1 h2 hk hl
  go_enter Try.func18, Try.ntmps18
  go_wp2
  go_loopw [5] (fun i wr => ∃ k : Nat, k ≤ n ∧ i = .int .i64 k ∧ Hid (Below w.heap.size w wr) ∧ Hid (∀ p, wr.cell? p = w.cell? p)) (fun i _ => n - (intOf i).toNat)
  case atStart => exact ⟨0, by omega, rfl, Lib.hid (Below.refl _ _), Lib.hid (fun _ => rfl)⟩
  case round =>
    obtain ⟨k, hk, rfl, hb, hc⟩ := hrel
    by_cases hlt : k < n
    · obtain ⟨b1, o1, rfl, -, hc1⟩ := H1.out.cells (by omega)
      obtain ⟨b2, o2, rfl, -, hc2⟩ := H2.out.cells (by omega)
      have hxk := List.getElem?_eq_getElem (l := xs) (i := k) (by rw [HL.out]; exact hlt)
      obtain ⟨x, hx, -, -⟩ := CK.ok_u64 (HK.out k _ hxk)
      rw [hx] at hxk
      have e1 : wr.cell? ⟨b1, o1 + k, none⟩ = some (.int .u64 x) := (hc.out _).trans (hc1 k _ hxk)
      have e2 : wr.cell? ⟨b2, o2 + k, none⟩ = some (.int .u64 x) := (hc.out _).trans (hc2 k _ hxk)
      have hne : (x != x) = false := bne_self_eq_false _
      clear hxk hx hc1 hc2
      go_upto_region 6 with fail
      go_quiet (fail)
      go_wp2
      go_roundw
      case rel => exact ⟨k + 1, by omega, by go_num, Lib.hid (by apply below_drewN; exact hb.out), hc⟩
      case measure => simp [intOf]; omega
    · obtain rfl : k = n := by omega
      go_wp2
      go_ret
      exact ⟨rfl, hb.out⟩

theorem nums_u64 {l : List Nat} {n : Nat} (hn : n ≤ 65536) (h : ∀ i ∈ l, i < n) : ∀ (j : Nat) u, (nums l)[j]? = some u → CK.u64.ok u := by
  intro j u hj
  have hjl : j < l.length := by
    have := (List.getElem?_eq_some_iff.1 hj).1
    rwa [nums_len] at this
  rw [nums_get l hjl] at hj
  cases hj
  have := h _ (List.getElem_mem hjl)
  exact ⟨by omega, by omega⟩

set_option maxHeartbeats 2000000 in
theorem flags_any (cs : Array Value) (L : Nat → List Value) (B : Nat) (w : World) (hB : B ≤ w.heap.size) (h : IsSt w B cs L) (fl q : Int) (hq : W64 q) :
    Calls Try.prog 6 #[.agg cs, .int .i64 fl, .int .u64 q] w fun e w' => e = .returned (.bool true) ∧ Below w.heap.size w w' := by
  have H := Lib.hid h
  have HQ := Lib.hid hq
  have hsz1 : 1957 ≤ cs.size := Nat.le_of_eq h.wf.size.symm
  have hsz2 : cs.size ≤ 1957 := Nat.le_of_eq h.wf.size
  clear h hq
  by_cases hc : RightP cs L ∧ 0 ≤ fl ∧ fl < 3 ∧ (q = cN cs 33 / 4 ∨ q = subz (cN cs 33 / 4) 1)
  · obtain ⟨hr, f0, f1, hq2⟩ := hc
    obtain ⟨f, rfl⟩ := Int.eq_ofNat_of_zero_le f0
    have hf : f < 3 := by omega
    have HR := Lib.hid hr
    have HQ2 := Lib.hid hq2
    have hlen := unsL_len (L 721) (L (lstK (cN cs 33 / 4) q)) q f (cnt L 721)
    have hv := hr.vals
    have HN : Hid (∀ (j : Nat) u, (nums (unsL (L 721) (L (lstK (cN cs 33 / 4) q)) q f (cnt L 721)))[j]? = some u → CK.u64.ok u) := Lib.hid (nums_u64 hv fun i hi => List.mem_range.1 (List.mem_filter.1 hi).1)
    clear hr hq2
    generalize hU : unsL (L 721) (L (lstK (cN cs 33 / 4) q)) q f (cnt L 721) = U at *
    have HU := Lib.hid hU
    clear hU
    go_enter Try.func6, Try.ntmps6
    go_upto_region 1 with fail
    obtain ⟨wx, hwx⟩ : ∃ wx : World, wx = w.alloc (.cells cs 49) := ⟨_, rfl⟩
    have hbx : Below w.heap.size w wx := by rw [hwx]; exact (by (repeat (first | exact Below.refl _ _ | apply Below.drew | apply below_drewN | (refine Below.alloc ?_ ?_ _) | (refine below_setRow ?_ ?_ _) | (refine Below.setCell ?_ ?_ _) | (refine Below.trans ?_ (Below.mono (by assumption) ?_)) | omega | (focus (simp; done)) | (focus (simp; omega)))))
    have hk : Blk wx w.heap.size 49 cs := by rw [hwx]; exact (by (repeat (first | assumption | (apply Blk.newAt; (focus (simp; done))) | apply Blk.alloc | apply Blk.setRow | apply Blk.drewN | apply Blk.drew | (refine Blk.setRow_other ?_ ?_ _; focus (first | omega | (simp; omega))))))
    rw [← hwx]
    clear hwx
    have hg := hk.lt
    have D := Lib.hid hbx
    clear hbx
    go_wp2_with (first
      | ((with_reducible apply l_loadw 49); (focus rfl); (focus (repeat (first | assumption | (apply Blk.newAt; (focus (simp; done))) | apply Blk.alloc | apply Blk.setRow | apply Blk.drewN | apply Blk.drew | (refine Blk.setRow_other ?_ ?_ _; focus (first | omega | (simp; omega)))))); (focus exact Try.underlying49); (focus rfl); (focus exact szState); (focus (first | exact omega | (first | omega | (simp; done) | (simp; omega) | assumption))); (try go_frame))
      | (go_at_call 8; refine (awake_any _).mono ?_; rintro e w1 ⟨rfl, hb1⟩; have hk2 := Blk.below hk hb1 hk.lt; have D2 := Lib.hid (D.out.trans (hb1.mono (by omega))); have hg2 := hk2.lt; clear hk D hg; have hk := hk2; have D := D2; have hg := hg2; clear hk2 D2 hg2; clear hb1)
      | (go_at_call 16; refine (uns_any cs L w.heap.size _ (by omega) ((H.out.more hB).below D.out) HR.out f hf q HQ.out HQ2.out).mono ?_
         rintro e w1 ⟨v1, rfl, hown1, hb1⟩
         rw [HU.out] at hown1
         obtain ⟨a1, c1, rfl⟩ := own_form hown1
         have S1 := Lib.hid (SlR.own (bytes := 8) hown1 (by omega))
         have hk2 := Blk.below hk hb1 hk.lt; have D2 := Lib.hid (D.out.trans (hb1.mono (by omega))); have hg2 := hk2.lt; clear hk D hg; have hk := hk2; have D := D2; have hg := hg2; clear hk2 D2 hg2
         clear hb1 hown1)
      | (go_at_call 17; refine (runs_any cs L w.heap.size _ (by omega) ((H.out.more hB).below D.out) HR.out f hf q HQ.out HQ2.out).mono ?_
         rintro e w2 ⟨v2, rfl, hown2, hb1⟩
         rw [HU.out] at hown2
         obtain ⟨a2, c2, rfl⟩ := own_form hown2
         have S2 := Lib.hid (SlR.own (bytes := 8) hown2 (by omega))
         have S1' := Lib.hid (S1.out.below hb1)
         have hk2 := Blk.below hk hb1 hk.lt; have D2 := Lib.hid (D.out.trans (hb1.mono (by omega))); have hg2 := hk2.lt; clear hk D hg; have hk := hk2; have D := D2; have hg := hg2; clear hk2 D2 hg2
         clear hb1 hown2)
      | (go_at_call 18; refine (same_yes _ _ _ _ _ _ _ _ _ S1'.out S2.out HN.out).mono ?_; rintro e w3 ⟨rfl, hb1⟩; have hk2 := Blk.below hk hb1 hk.lt; have D2 := Lib.hid (D.out.trans (hb1.mono (by omega))); have hg2 := hk2.lt; clear hk D hg; have hk := hk2; have D := D2; have hg := hg2; clear hk2 D2 hg2; clear hb1))
    go_ret
    exact ⟨rfl, D.out⟩
  · have HC := Lib.hid hc
    clear hc
    go_enter Try.func6, Try.ntmps6
    go_upto_region 1 with fail
    obtain ⟨wx, hwx⟩ : ∃ wx : World, wx = w.alloc (.cells cs 49) := ⟨_, rfl⟩
    have hbx : Below w.heap.size w wx := by rw [hwx]; exact (by (repeat (first | exact Below.refl _ _ | apply Below.drew | apply below_drewN | (refine Below.alloc ?_ ?_ _) | (refine below_setRow ?_ ?_ _) | (refine Below.setCell ?_ ?_ _) | (refine Below.trans ?_ (Below.mono (by assumption) ?_)) | omega | (focus (simp; done)) | (focus (simp; omega)))))
    have hk : Blk wx w.heap.size 49 cs := by rw [hwx]; exact (by (repeat (first | assumption | (apply Blk.newAt; (focus (simp; done))) | apply Blk.alloc | apply Blk.setRow | apply Blk.drewN | apply Blk.drew | (refine Blk.setRow_other ?_ ?_ _; focus (first | omega | (simp; omega))))))
    rw [← hwx]
    clear hwx
    have hg := hk.lt
    have D := Lib.hid hbx
    clear hbx
    go_wp2_with (first
      | ((with_reducible apply l_loadw 49); (focus rfl); (focus (repeat (first | assumption | (apply Blk.newAt; (focus (simp; done))) | apply Blk.alloc | apply Blk.setRow | apply Blk.drewN | apply Blk.drew | (refine Blk.setRow_other ?_ ?_ _; focus (first | omega | (simp; omega)))))); (focus exact Try.underlying49); (focus rfl); (focus exact szState); (focus (first | exact omega | (first | omega | (simp; done) | (simp; omega) | assumption))); (try go_frame))
      | (go_at_call 8; refine (awake_any _).mono ?_; rintro e w1 ⟨rfl, hb1⟩; have hk2 := Blk.below hk hb1 hk.lt; have D2 := Lib.hid (D.out.trans (hb1.mono (by omega))); have hg2 := hk2.lt; clear hk D hg; have hk := hk2; have D := D2; have hg := hg2; clear hk2 D2 hg2; clear hb1)
      | (go_at_call 16; refine (uns_err cs L w.heap.size _ (by omega) ((H.out.more hB).below D.out) fl q HC.out).mono ?_; rintro e w1 ⟨rfl, hb1⟩; have hk2 := Blk.below hk hb1 hk.lt; have D2 := Lib.hid (D.out.trans (hb1.mono (by omega))); have hg2 := hk2.lt; clear hk D hg; have hk := hk2; have D := D2; have hg := hg2; clear hk2 D2 hg2; clear hb1)
      | (go_at_call 17; refine (runs_err cs L w.heap.size _ (by omega) ((H.out.more hB).below D.out) fl q HC.out).mono ?_; rintro e w1 ⟨rfl, hb1⟩; have hk2 := Blk.below hk hb1 hk.lt; have D2 := Lib.hid (D.out.trans (hb1.mono (by omega))); have hg2 := hk2.lt; clear hk D hg; have hk := hk2; have D := D2; have hg := hg2; clear hk2 D2 hg2; clear hb1)
      | (go_at_call 18; refine (same_yes none none 0 0 0 0 0 [] _ SlR.nil_ SlR.nil_ (fun j u h => by simp at h)).mono ?_; rintro e w3 ⟨rfl, hb1⟩; have hk2 := Blk.below hk hb1 hk.lt; have D2 := Lib.hid (D.out.trans (hb1.mono (by omega))); have hg2 := hk2.lt; clear hk D hg; have hk := hk2; have D := D2; have hg := hg2; clear hk2 D2 hg2; clear hb1))
    go_ret
    exact ⟨rfl, D.out⟩

end Go.Proofs.Ytikbkcidalippaa
