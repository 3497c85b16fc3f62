/-
  pharosref10.Same on two states that are alike; pharosref05.Same on none; pharosref17.Told: walked.
-/
import Derived.Test.YtikbkcidalippaaEncSt
import Derived.Test.YtikbkcidalippaaEncU8
import Derived.Test.YtikbkcidalippaaReg
import Derived.Laws.BytesArg
namespace Go.Proofs.Ytikbkcidalippaa
open Go.RowKit
set_option maxRecDepth 100000

/-- The string of the bytes X. -/
def strOf (X : List Value) : ByteArray := strOfNums (X.map fun u => numOf (some u))
theorem own_str {w w' : World} {base : Nat} {a : Option Addr} {n c : Nat} {X : List Value} (h : w.ownsRow base 5 1 (.slice a n c) n X) (hu : u8L X) (hb : Below w.heap.size w w') :
    (convert 39 9 (.slice a n c)).run Try.prog w' = .ok (.string (strOf X)) w' := by
  obtain ⟨hl, h⟩ := h
  rcases h with ⟨hv, rfl⟩ | ⟨g, cap, cur, hv, hg, hh, hle, hm, hc, ht⟩
  · simp only [Value.slice.injEq] at hv
    obtain ⟨rfl, -, rfl⟩ := hv
    have hX : X = [] := List.eq_nil_of_length_eq_zero (by simpa using hl)
    subst hX
    exact run_convert_bytes_nil w' _ _ Try.underlying39 Try.underlying5 _ _ _ Try.underlying9
  · simp only [Value.slice.injEq, true_and] at hv
    obtain ⟨rfl, rfl⟩ := hv
    have hlt : g < w.heap.size := Blk.lt (w := w) (g := g) hh
    have hX : X.length = n := by simpa using hl
    refine run_convert_bytes_arg w' _ _ Try.underlying39 Try.underlying5 g 0 n c (X.map fun u => numOf (some u)) (by simpa using hX) (fun i hi => ?_) _ Try.underlying9
    have hiX : i < X.length := by omega
    obtain ⟨m, hm2⟩ := hu X[i] (List.getElem_mem hiX)
    have e1 : w'.cell? ⟨g, 0 + i, none⟩ = w.cell? ⟨g, 0 + i, none⟩ := hb.cell (p := ⟨g, 0 + i, none⟩) hlt
    rw [e1, Nat.zero_add, cell_of_row w g i cur _ (0, 0) hh]
    have e2 : cur[i]? = some X[i] := by
      have : X[i]? = some X[i] := List.getElem?_eq_getElem hiX
      rw [← this, ← ht, List.getElem?_take, if_pos (by omega)]
      simp
    rw [e2, List.getD_eq_getElem?_getD, List.getElem?_map, List.getElem?_eq_getElem hiX, hm2]
    rfl

attribute [local irreducible] Hid Blk
theorem encst_ok {cs : Array Value} {L : Nat → List Value} (hok : CntOK L) (B : Nat) (w : World) (hB : B ≤ w.heap.size) (h : IsSt w B cs L) :
    Calls Try.prog 30 #[.agg cs] w fun e w' => ∃ v, e = .returned (.tuple #[v, .int .i64 0]) ∧ w'.ownsRow w.heap.size 5 1 v (encB cs L).length (encB cs L) ∧ Below w.heap.size w w' :=
  (encst_any cs L B w hB h).mono fun _ _ hp => hp.elim (fun h => h.2) (fun h => absurd hok h.1)
theorem encst_no {cs : Array Value} {L : Nat → List Value} (hno : ¬ CntOK L) (B : Nat) (w : World) (hB : B ≤ w.heap.size) (h : IsSt w B cs L) :
    Calls Try.prog 30 #[.agg cs] w fun e w' => e = .returned (.tuple #[.slice none 0 0, .int .i64 6]) ∧ Below w.heap.size w w' :=
  (encst_any cs L B w hB h).mono fun _ _ hp => hp.elim (fun h => absurd h.1 hno) (fun h => h.2)

set_option maxHeartbeats 2000000 in
theorem same10_yes (cs1 cs2 : Array Value) (L : Nat → List Value) (B1 B2 : Nat) (w : World) (hB1 : B1 ≤ w.heap.size) (hB2 : B2 ≤ w.heap.size) (h1 : IsSt w B1 cs1 L) (h2 : IsSt w B2 cs2 L) (he : encB cs1 L = encB cs2 L) :
    Calls Try.prog 13 #[.agg cs1, .agg cs2] w fun e w' => e = .returned (.bool true) ∧ Below w.heap.size w w' := by
  have H1 := Lib.hid h1
  have H2 := Lib.hid h2
  have HE := Lib.hid he
  have hsz1 : 1957 ≤ cs1.size := Nat.le_of_eq h1.wf.size.symm
  have hsz2 : cs1.size ≤ 1957 := Nat.le_of_eq h1.wf.size
  have hsz3 : 1957 ≤ cs2.size := Nat.le_of_eq h2.wf.size.symm
  have hsz4 : cs2.size ≤ 1957 := Nat.le_of_eq h2.wf.size
  clear h1 h2 he
  by_cases hok : CntOK L
  · have HK := Lib.hid hok
    clear hok
    go_enter Try.func13, Try.ntmps13
    go_upto_region 1 with fail
    obtain ⟨wx, hwx⟩ : ∃ wx : World, wx = (w.alloc (.cells cs1 49)).alloc (.cells cs2 49) := ⟨_, rfl⟩
    have D0 : Hid (Below w.heap.size w wx) := Lib.hid (by rw [hwx]; exact (by (repeat (first | exact Below.refl _ _ | apply Below.drew | apply below_drewN | (refine Below.alloc ?_ ?_ _) | (refine below_setRow ?_ ?_ _) | (refine Below.setCell ?_ ?_ _) | (refine Below.trans ?_ (Below.mono (by assumption) ?_)) | omega | (focus (simp; done)) | (focus (simp; omega))))))
    have K1 : Hid (Blk wx w.heap.size 49 cs1) := Lib.hid (by rw [hwx]; exact (by (repeat (first | assumption | (apply Blk.newAt; (focus (simp; done))) | apply Blk.alloc | apply Blk.setRow | apply Blk.drewN | apply Blk.drew | (refine Blk.setRow_other ?_ ?_ _; focus (first | omega | (simp; omega)))))))
    have K2 : Hid (Blk wx (w.heap.size + 1) 49 cs2) := Lib.hid (by rw [hwx]; exact (by (repeat (first | assumption | (apply Blk.newAt; (focus (simp; done))) | apply Blk.alloc | apply Blk.setRow | apply Blk.drewN | apply Blk.drew | (refine Blk.setRow_other ?_ ?_ _; focus (first | omega | (simp; omega)))))))
    have hgx : w.heap.size + 2 ≤ wx.heap.size := by rw [hwx]; simp
    have ex : (w.alloc (.cells cs1 49)).heap.size = w.heap.size + 1 := by simp
    rw [← hwx]
    clear hwx
    have hk := K1.out
    go_upto_region 2 with (first
      | ((with_reducible apply l_loadw 49); (focus rfl); (focus (repeat (first | assumption | (apply Blk.newAt; (focus (simp; done))) | apply Blk.alloc | apply Blk.setRow | apply Blk.drewN | apply Blk.drew | (refine Blk.setRow_other ?_ ?_ _; focus (first | omega | (simp; omega)))))); (focus exact Try.underlying49); (focus rfl); (focus exact szState); (focus (first | exact omega | (first | omega | (simp; done) | (simp; omega) | assumption))); (try go_frame))
      | (go_at_call 30; refine (encst_ok HK.out B1 _ (by omega) (H1.out.below (D0.out.mono hB1))).mono ?_
         rintro e w1 ⟨v1, rfl, hown, hb1⟩
         obtain ⟨a1, c1, rfl⟩ := own_form hown
         have O1 := Lib.hid hown
         have D1 := Lib.hid (D0.out.trans (hb1.mono (by omega)))
         have hg1 := hb1.size
         have hk2 := Lib.hid (Blk.below K2.out hb1 (by omega))
         clear hown hb1 hk
         skip))
    have hk := hk2.out
    go_upto_region 3 with (first
      | ((with_reducible apply l_loadw 49); (focus rfl); (focus (repeat (first | assumption | (apply Blk.newAt; (focus (simp; done))) | apply Blk.alloc | apply Blk.setRow | apply Blk.drewN | apply Blk.drew | (refine Blk.setRow_other ?_ ?_ _; focus (first | omega | (simp; omega)))))); (focus exact Try.underlying49); (focus rfl); (focus exact szState); (focus (first | exact omega | (first | omega | (simp; done) | (simp; omega) | assumption))); (try go_frame))
      | (go_at_call 30; refine (encst_ok HK.out B2 _ (by omega) (H2.out.below (D1.out.mono hB2))).mono ?_
         rintro e w2 ⟨v2, rfl, hown, hb2⟩
         obtain ⟨a2, c2, rfl⟩ := own_form hown
         have S1 := Lib.hid (own_str O1.out (encB_u8 H1.out) hb2)
         have S2 := Lib.hid (own_str hown (encB_u8 H2.out) (Below.refl _ _))
         have D2 := Lib.hid (D1.out.trans (hb2.mono (by omega)))
         clear hown hb2 hk
         skip))
    have s1 := S1.out
    have s2 := S2.out
    rw [show strOf (encB cs2 L) = strOf (encB cs1 L) by rw [HE.out]] at s2
    generalize strOf (encB cs1 L) = S at s1 s2
    go_wp2
    go_ret
    exact ⟨rfl, D2.out⟩
  · have HK := Lib.hid hok
    clear hok
    go_enter Try.func13, Try.ntmps13
    go_upto_region 1 with fail
    obtain ⟨wx, hwx⟩ : ∃ wx : World, wx = (w.alloc (.cells cs1 49)).alloc (.cells cs2 49) := ⟨_, rfl⟩
    have D0 : Hid (Below w.heap.size w wx) := Lib.hid (by rw [hwx]; exact (by (repeat (first | exact Below.refl _ _ | apply Below.drew | apply below_drewN | (refine Below.alloc ?_ ?_ _) | (refine below_setRow ?_ ?_ _) | (refine Below.setCell ?_ ?_ _) | (refine Below.trans ?_ (Below.mono (by assumption) ?_)) | omega | (focus (simp; done)) | (focus (simp; omega))))))
    have K1 : Hid (Blk wx w.heap.size 49 cs1) := Lib.hid (by rw [hwx]; exact (by (repeat (first | assumption | (apply Blk.newAt; (focus (simp; done))) | apply Blk.alloc | apply Blk.setRow | apply Blk.drewN | apply Blk.drew | (refine Blk.setRow_other ?_ ?_ _; focus (first | omega | (simp; omega)))))))
    have K2 : Hid (Blk wx (w.heap.size + 1) 49 cs2) := Lib.hid (by rw [hwx]; exact (by (repeat (first | assumption | (apply Blk.newAt; (focus (simp; done))) | apply Blk.alloc | apply Blk.setRow | apply Blk.drewN | apply Blk.drew | (refine Blk.setRow_other ?_ ?_ _; focus (first | omega | (simp; omega)))))))
    have hgx : w.heap.size + 2 ≤ wx.heap.size := by rw [hwx]; simp
    rw [← hwx]
    clear hwx
    have hk := K1.out
    go_upto_region 2 with (first
      | ((with_reducible apply l_loadw 49); (focus rfl); (focus (repeat (first | assumption | (apply Blk.newAt; (focus (simp; done))) | apply Blk.alloc | apply Blk.setRow | apply Blk.drewN | apply Blk.drew | (refine Blk.setRow_other ?_ ?_ _; focus (first | omega | (simp; omega)))))); (focus exact Try.underlying49); (focus rfl); (focus exact szState); (focus (first | exact omega | (first | omega | (simp; done) | (simp; omega) | assumption))); (try go_frame))
      | (go_at_call 30; refine (encst_no HK.out B1 _ (by omega) (H1.out.below (D0.out.mono hB1))).mono ?_
         rintro e w1 ⟨rfl, hb1⟩
         have D1 := Lib.hid (D0.out.trans (hb1.mono (by omega)))
         have hg1 := hb1.size
         have hk2 := Lib.hid (Blk.below K2.out hb1 (by omega))
         clear hb1 hk
         skip))
    have hk := hk2.out
    go_upto_region 3 with (first
      | ((with_reducible apply l_loadw 49); (focus rfl); (focus (repeat (first | assumption | (apply Blk.newAt; (focus (simp; done))) | apply Blk.alloc | apply Blk.setRow | apply Blk.drewN | apply Blk.drew | (refine Blk.setRow_other ?_ ?_ _; focus (first | omega | (simp; omega)))))); (focus exact Try.underlying49); (focus rfl); (focus exact szState); (focus (first | exact omega | (first | omega | (simp; done) | (simp; omega) | assumption))); (try go_frame))
      | (go_at_call 30; refine (encst_no HK.out B2 _ (by omega) (H2.out.below (D1.out.mono hB2))).mono ?_
         rintro e w2 ⟨rfl, hb2⟩
         have D2 := Lib.hid (D1.out.trans (hb2.mono (by omega)))
         clear hb2 hk
         skip))
    have s1 : (convert 39 9 (.slice none 0 0)).run Try.prog w2 = .ok (.string ByteArray.empty) w2 := run_convert_bytes_nil w2 _ _ Try.underlying39 Try.underlying5 _ _ _ Try.underlying9
    go_wp2
    go_ret
    exact ⟨rfl, D2.out⟩

set_option maxHeartbeats 400000 in
theorem same5_nil (w : World) : Calls Try.prog 29 #[.slice none 0 0, .slice none 0 0] w fun e w' => e = .returned (.bool true) ∧ w = w' := by
  go_enter Try.func29, Try.ntmps29
  go_wp2
  go_loop [5] (fun i => i = .int .i64 0) (fun _ => 0)
  case atStart => rfl
  case round =>
    subst hrel
    go_wp2
    go_ret
    exact ⟨rfl, rfl⟩

set_option maxHeartbeats 2000000 in
theorem told_yes (cs1 cs2 : Array Value) (L : Nat → List Value) (B1 B2 : Nat) (w : World) (hB1 : B1 ≤ w.heap.size) (hB2 : B2 ≤ w.heap.size) (h1 : IsSt w B1 cs1 L) (h2 : IsSt w B2 cs2 L) (he : encB cs1 L = encB cs2 L) (q : Int) :
    Calls Try.prog 12 #[.agg cs1, .agg cs2, .slice none 0 0, .slice none 0 0, .int .i64 q, .int .i64 q] w fun e w' => e = .returned (.bool true) ∧ Below w.heap.size w w' := by
  have H1 := Lib.hid h1
  have H2 := Lib.hid h2
  have HE := Lib.hid he
  have hsz1 : 1957 ≤ cs1.size := Nat.le_of_eq h1.wf.size.symm
  have hsz2 : cs1.size ≤ 1957 := Nat.le_of_eq h1.wf.size
  have hsz3 : 1957 ≤ cs2.size := Nat.le_of_eq h2.wf.size.symm
  have hsz4 : cs2.size ≤ 1957 := Nat.le_of_eq h2.wf.size
  clear h1 h2 he
  go_enter Try.func12, Try.ntmps12
  go_upto_region 1 with fail
  obtain ⟨wx, hwx⟩ : ∃ wx : World, wx = (w.alloc (.cells cs1 49)).alloc (.cells cs2 49) := ⟨_, rfl⟩
  have D0 : Hid (Below w.heap.size w wx) := Lib.hid (by rw [hwx]; exact (by (repeat (first | exact Below.refl _ _ | apply Below.drew | apply below_drewN | (refine Below.alloc ?_ ?_ _) | (refine below_setRow ?_ ?_ _) | (refine Below.setCell ?_ ?_ _) | (refine Below.trans ?_ (Below.mono (by assumption) ?_)) | omega | (focus (simp; done)) | (focus (simp; omega))))))
  have k1 : Blk wx w.heap.size 49 cs1 := by rw [hwx]; exact (by (repeat (first | assumption | (apply Blk.newAt; (focus (simp; done))) | apply Blk.alloc | apply Blk.setRow | apply Blk.drewN | apply Blk.drew | (refine Blk.setRow_other ?_ ?_ _; focus (first | omega | (simp; omega))))))
  have k2 : Blk wx (w.heap.size + 1) 49 cs2 := by rw [hwx]; exact (by (repeat (first | assumption | (apply Blk.newAt; (focus (simp; done))) | apply Blk.alloc | apply Blk.setRow | apply Blk.drewN | apply Blk.drew | (refine Blk.setRow_other ?_ ?_ _; focus (first | omega | (simp; omega))))))
  have hgx : w.heap.size + 2 ≤ wx.heap.size := by rw [hwx]; simp
  rw [← hwx]
  clear hwx
  go_upto_region 2 with (first
    | (go_at_call 29; refine (same5_nil _).mono ?_; rintro e w1 ⟨rfl, rfl⟩)
    | ((with_reducible apply o_loadw 49); (focus rfl); (focus (repeat (first | assumption | (apply Blk.newAt; (focus (simp; done))) | apply Blk.alloc | apply Blk.setRow | apply Blk.drewN | apply Blk.drew | (refine Blk.setRow_other ?_ ?_ _; focus (first | omega | (simp; omega)))))); (focus exact Try.underlying49); (focus rfl); (focus exact szState); (focus (first | omega | (simp; done) | (simp; omega) | assumption)); (try simp only [Act.put, List.setIfInBounds_toArray, List.set_cons_zero, List.set_cons_succ]))
    | ((with_reducible apply l_loadw 49); (focus rfl); (focus (repeat (first | assumption | (apply Blk.newAt; (focus (simp; done))) | apply Blk.alloc | apply Blk.setRow | apply Blk.drewN | apply Blk.drew | (refine Blk.setRow_other ?_ ?_ _; focus (first | omega | (simp; omega)))))); (focus exact Try.underlying49); (focus rfl); (focus exact szState); (focus (first | exact omega | (first | omega | (simp; done) | (simp; omega) | assumption))); (try go_frame))
    | (go_at_call 13; refine (same10_yes cs1 cs2 L B1 B2 _ (by omega) (by omega) (H1.out.below (D0.out.mono hB1)) (H2.out.below (D0.out.mono hB2)) HE.out).mono ?_
       rintro e w2 ⟨rfl, hb2⟩
       have D2 := Lib.hid (D0.out.trans (hb2.mono (by omega)))
       clear hb2 k1 k2))
  go_wp2
  go_ret
  exact ⟨rfl, D2.out⟩
end Go.Proofs.Ytikbkcidalippaa
