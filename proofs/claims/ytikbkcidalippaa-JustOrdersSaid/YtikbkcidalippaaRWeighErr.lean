/-
  pharosref22.Weigh where it refuses: ErrArg. What Weigh makes of two states that are alike is alike.
-/
import Derived.Test.YtikbkcidalippaaRWeigh
import Derived.Test.YtikbkcidalippaaWeighs
namespace Go.Proofs.Ytikbkcidalippaa
open Go.RowKit
attribute [local irreducible] Hid Blk
set_option maxRecDepth 100000

set_option maxHeartbeats 4000000 in
theorem rweigh_err (cs : Array Value) (L : Nat → List Value) (B : Nat) (w : World) (hB : B ≤ w.heap.size) (h : IsSt w B cs L) (all prev cur : Int)
    (ha : W64 all) (hp : W64 prev) (hc : W64 cur) (hno : ¬ (RightP cs L ∧ cN cs 33 % 4 = 3 ∧ all ≤ 1152921504606846976 ∧ prev ≤ 1152921504606846976 ∧ cur ≤ 1152921504606846976)) :
    Calls Try.prog 11 #[.agg cs, .int .u64 all, .int .u64 prev, .int .u64 cur] w fun e w' => e = .returned (.tuple #[.agg (zst), .int .i64 1]) ∧ Below w.heap.size w w' := by
  obtain ⟨_, _⟩ := ha; obtain ⟨_, _⟩ := hp; obtain ⟨_, _⟩ := hc
  have H := Lib.hid h
  have Hno := Lib.hid hno
  have hsz1 : 1957 ≤ cs.size := Nat.le_of_eq h.wf.size.symm
  have hsz2 : cs.size ≤ 1957 := Nat.le_of_eq h.wf.size
  have hS := Lib.hid zst_size
  have hZs1 : 1957 ≤ zst.size := Nat.le_of_eq zst_size.symm
  have hZs2 : zst.size ≤ 1957 := Nat.le_of_eq zst_size
  have hO := Lib.hid zst_wf.ones
  have hBu := Lib.hid built_zst
  have hzz : Hid (zc Try.prog 49 = zst) := Lib.hid rfl
  obtain ⟨r, hr⟩ : ∃ r, r = (rightB cs L && (cN cs 33 % 4 == 3)) := ⟨_, rfl⟩
  have HR := Lib.hid hr.symm
  clear h hno hr
  generalize zst = Z at *
  cases r
  case false =>
    go_enter Try.func11, Try.ntmps11
    go_upto_region 1 with ((with_reducible apply l_alloc 49); (focus kernel_rfl); (try go_frame))
    simp only [World.size_alloc]
    rw [hzz.out]
    obtain ⟨wx, hwx⟩ : ∃ wx : World, wx = (w.alloc (.cells cs 49)).alloc (.cells Z 49) := ⟨_, rfl⟩
    have hbx : Below w.heap.size w wx := by rw [hwx]; exact (by (repeat (first | exact Below.refl _ _ | apply Below.drew | apply below_drewN | (refine Below.alloc ?_ ?_ _) | (refine below_setRow ?_ ?_ _) | (refine Below.setCell ?_ ?_ _) | (refine Below.trans ?_ (Below.mono (by assumption) ?_)) | omega | (focus (simp; done)) | (focus (simp; omega)))))
    have hkx : Blk wx w.heap.size 49 cs := by rw [hwx]; exact (by (repeat (first | assumption | (apply Blk.newAt; (focus (simp; done))) | apply Blk.alloc | apply Blk.setRow | apply Blk.drewN | apply Blk.drew | (refine Blk.setRow_other ?_ ?_ _; focus (first | omega | (simp; omega))))))
    have hzx : Blk wx (w.heap.size + 1) 49 Z := by rw [hwx]; exact (by (repeat (first | assumption | (apply Blk.newAt; (focus (simp; done))) | apply Blk.alloc | apply Blk.setRow | apply Blk.drewN | apply Blk.drew | (refine Blk.setRow_other ?_ ?_ _; focus (first | omega | (simp; omega))))))
    have hgx : w.heap.size + 2 ≤ wx.heap.size := by rw [hwx]; simp
    rw [← hwx]
    clear hwx
    have Bx := Lib.hid hbx
    go_wp2_with (first
      | ((with_reducible apply l_loadw 49); (focus rfl); (focus (repeat (first | assumption | (apply Blk.newAt; (focus (simp; done))) | apply Blk.alloc | apply Blk.setRow | apply Blk.drewN | apply Blk.drew | (refine Blk.setRow_other ?_ ?_ _; focus (first | omega | (simp; omega)))))); (focus exact Try.underlying49); (focus rfl); (focus exact szState); (focus (first | exact omega | (first | omega | (simp; done) | (simp; omega) | assumption))); (try go_frame))
      | (go_at_call 19; refine (rend_any cs L w.heap.size _ (by omega) ?_).mono ?_
         focus (exact (H.out.more hB).below Bx.out)
         rintro e w1 ⟨rfl, hb1⟩
         rw [HR.out]
         have hz1 : Blk w1 (w.heap.size + 1) 49 Z := Blk.below hzx hb1 (by omega)
         have D1 := Lib.hid (Below.trans hbx (Below.mono hb1 (by omega)))
         clear hkx hzx hbx hb1)
      | ((with_reducible apply l_build 49); (focus rfl); (focus exact hBu.out); (try go_frame))
      | ((with_reducible apply l_storew 49); (focus rfl); (focus rfl); (focus (repeat (first | assumption | (apply Blk.newAt; (focus (simp; done))) | apply Blk.alloc | apply Blk.setRow | apply Blk.drewN | apply Blk.drew | (refine Blk.setRow_other ?_ ?_ _; focus (first | omega | (simp; omega)))))); (focus exact szState); (focus (first | exact hS.out | (first | omega | (simp; done) | (simp; omega) | assumption))); (focus (first | omega | (simp; done) | (simp; omega) | assumption)); (focus exact hO.out); (focus (repeat (first | (apply setRow_eq_at; (focus (simp; done))) | (refine setRow_eq_past ?_ ?_; (focus (first | (simp; done) | omega | (simp; omega)))) | apply setRow_eq_drewN | apply setRow_eq_drew | rfl))); (try go_frame)))
    ((with_reducible apply l_ret2); (focus rfl); (focus rfl); (focus rfl); (focus (repeat (first | assumption | (apply Blk.newAt; (focus (simp; done))) | apply Blk.alloc | apply Blk.setRow | apply Blk.drewN | apply Blk.drew | (refine Blk.setRow_other ?_ ?_ _; focus (first | omega | (simp; omega)))))); (focus exact Try.underlying49); (focus rfl); (focus exact szState); (focus (first | exact hS.out | (first | omega | (simp; done) | (simp; omega) | assumption))); (focus rfl))
    exact ⟨rfl, below_setRow D1.out (by omega) _⟩
  have Hb : Hid (1152921504606846976 < all ∨ 1152921504606846976 < prev ∨ 1152921504606846976 < cur) := Lib.hid (by
    have hn := Hno.out
    have ht := HR.out
    simp only [Bool.and_eq_true, beq_iff_eq] at ht
    rcases Int.lt_or_le 1152921504606846976 all with h | h
    · exact .inl h
    rcases Int.lt_or_le 1152921504606846976 prev with h2 | h2
    · exact .inr (.inl h2)
    rcases Int.lt_or_le 1152921504606846976 cur with h3 | h3
    · exact .inr (.inr h3)
    exact absurd ⟨rightB_iff.1 ht.1, ht.2, h, h2, h3⟩ hn)
  by_cases k1 : 1152921504606846976 < all
  case pos =>
    have m1 : decide (1152921504606846976 < all) = true := decide_eq_true k1
    clear k1
    go_enter Try.func11, Try.ntmps11
    go_upto_region 1 with ((with_reducible apply l_alloc 49); (focus kernel_rfl); (try go_frame))
    simp only [World.size_alloc]
    rw [hzz.out]
    obtain ⟨wx, hwx⟩ : ∃ wx : World, wx = (w.alloc (.cells cs 49)).alloc (.cells Z 49) := ⟨_, rfl⟩
    have hbx : Below w.heap.size w wx := by rw [hwx]; exact (by (repeat (first | exact Below.refl _ _ | apply Below.drew | apply below_drewN | (refine Below.alloc ?_ ?_ _) | (refine below_setRow ?_ ?_ _) | (refine Below.setCell ?_ ?_ _) | (refine Below.trans ?_ (Below.mono (by assumption) ?_)) | omega | (focus (simp; done)) | (focus (simp; omega)))))
    have hkx : Blk wx w.heap.size 49 cs := by rw [hwx]; exact (by (repeat (first | assumption | (apply Blk.newAt; (focus (simp; done))) | apply Blk.alloc | apply Blk.setRow | apply Blk.drewN | apply Blk.drew | (refine Blk.setRow_other ?_ ?_ _; focus (first | omega | (simp; omega))))))
    have hzx : Blk wx (w.heap.size + 1) 49 Z := by rw [hwx]; exact (by (repeat (first | assumption | (apply Blk.newAt; (focus (simp; done))) | apply Blk.alloc | apply Blk.setRow | apply Blk.drewN | apply Blk.drew | (refine Blk.setRow_other ?_ ?_ _; focus (first | omega | (simp; omega))))))
    have hgx : w.heap.size + 2 ≤ wx.heap.size := by rw [hwx]; simp
    rw [← hwx]
    clear hwx
    have Bx := Lib.hid hbx
    go_wp2_with (first
      | ((with_reducible apply l_loadw 49); (focus rfl); (focus (repeat (first | assumption | (apply Blk.newAt; (focus (simp; done))) | apply Blk.alloc | apply Blk.setRow | apply Blk.drewN | apply Blk.drew | (refine Blk.setRow_other ?_ ?_ _; focus (first | omega | (simp; omega)))))); (focus exact Try.underlying49); (focus rfl); (focus exact szState); (focus (first | exact omega | (first | omega | (simp; done) | (simp; omega) | assumption))); (try go_frame))
      | (go_at_call 19; refine (rend_any cs L w.heap.size _ (by omega) ?_).mono ?_
         focus (exact (H.out.more hB).below Bx.out)
         rintro e w1 ⟨rfl, hb1⟩
         rw [HR.out]
         have hz1 : Blk w1 (w.heap.size + 1) 49 Z := Blk.below hzx hb1 (by omega)
         have D1 := Lib.hid (Below.trans hbx (Below.mono hb1 (by omega)))
         clear hkx hzx hbx hb1)
      | ((with_reducible apply l_build 49); (focus rfl); (focus exact hBu.out); (try go_frame))
      | ((with_reducible apply l_storew 49); (focus rfl); (focus rfl); (focus (repeat (first | assumption | (apply Blk.newAt; (focus (simp; done))) | apply Blk.alloc | apply Blk.setRow | apply Blk.drewN | apply Blk.drew | (refine Blk.setRow_other ?_ ?_ _; focus (first | omega | (simp; omega)))))); (focus exact szState); (focus (first | exact hS.out | (first | omega | (simp; done) | (simp; omega) | assumption))); (focus (first | omega | (simp; done) | (simp; omega) | assumption)); (focus exact hO.out); (focus (repeat (first | (apply setRow_eq_at; (focus (simp; done))) | (refine setRow_eq_past ?_ ?_; (focus (first | (simp; done) | omega | (simp; omega)))) | apply setRow_eq_drewN | apply setRow_eq_drew | rfl))); (try go_frame)))
    ((with_reducible apply l_ret2); (focus rfl); (focus rfl); (focus rfl); (focus (repeat (first | assumption | (apply Blk.newAt; (focus (simp; done))) | apply Blk.alloc | apply Blk.setRow | apply Blk.drewN | apply Blk.drew | (refine Blk.setRow_other ?_ ?_ _; focus (first | omega | (simp; omega)))))); (focus exact Try.underlying49); (focus rfl); (focus exact szState); (focus (first | exact hS.out | (first | omega | (simp; done) | (simp; omega) | assumption))); (focus rfl))
    exact ⟨rfl, below_setRow D1.out (by omega) _⟩
  have m1 : decide (1152921504606846976 < all) = false := decide_eq_false k1
  by_cases k2 : 1152921504606846976 < prev
  case pos =>
    have m2 : decide (1152921504606846976 < prev) = true := decide_eq_true k2
    clear k1 k2
    go_enter Try.func11, Try.ntmps11
    go_upto_region 1 with ((with_reducible apply l_alloc 49); (focus kernel_rfl); (try go_frame))
    simp only [World.size_alloc]
    rw [hzz.out]
    obtain ⟨wx, hwx⟩ : ∃ wx : World, wx = (w.alloc (.cells cs 49)).alloc (.cells Z 49) := ⟨_, rfl⟩
    have hbx : Below w.heap.size w wx := by rw [hwx]; exact (by (repeat (first | exact Below.refl _ _ | apply Below.drew | apply below_drewN | (refine Below.alloc ?_ ?_ _) | (refine below_setRow ?_ ?_ _) | (refine Below.setCell ?_ ?_ _) | (refine Below.trans ?_ (Below.mono (by assumption) ?_)) | omega | (focus (simp; done)) | (focus (simp; omega)))))
    have hkx : Blk wx w.heap.size 49 cs := by rw [hwx]; exact (by (repeat (first | assumption | (apply Blk.newAt; (focus (simp; done))) | apply Blk.alloc | apply Blk.setRow | apply Blk.drewN | apply Blk.drew | (refine Blk.setRow_other ?_ ?_ _; focus (first | omega | (simp; omega))))))
    have hzx : Blk wx (w.heap.size + 1) 49 Z := by rw [hwx]; exact (by (repeat (first | assumption | (apply Blk.newAt; (focus (simp; done))) | apply Blk.alloc | apply Blk.setRow | apply Blk.drewN | apply Blk.drew | (refine Blk.setRow_other ?_ ?_ _; focus (first | omega | (simp; omega))))))
    have hgx : w.heap.size + 2 ≤ wx.heap.size := by rw [hwx]; simp
    rw [← hwx]
    clear hwx
    have Bx := Lib.hid hbx
    go_wp2_with (first
      | ((with_reducible apply l_loadw 49); (focus rfl); (focus (repeat (first | assumption | (apply Blk.newAt; (focus (simp; done))) | apply Blk.alloc | apply Blk.setRow | apply Blk.drewN | apply Blk.drew | (refine Blk.setRow_other ?_ ?_ _; focus (first | omega | (simp; omega)))))); (focus exact Try.underlying49); (focus rfl); (focus exact szState); (focus (first | exact omega | (first | omega | (simp; done) | (simp; omega) | assumption))); (try go_frame))
      | (go_at_call 19; refine (rend_any cs L w.heap.size _ (by omega) ?_).mono ?_
         focus (exact (H.out.more hB).below Bx.out)
         rintro e w1 ⟨rfl, hb1⟩
         rw [HR.out]
         have hz1 : Blk w1 (w.heap.size + 1) 49 Z := Blk.below hzx hb1 (by omega)
         have D1 := Lib.hid (Below.trans hbx (Below.mono hb1 (by omega)))
         clear hkx hzx hbx hb1)
      | ((with_reducible apply l_build 49); (focus rfl); (focus exact hBu.out); (try go_frame))
      | ((with_reducible apply l_storew 49); (focus rfl); (focus rfl); (focus (repeat (first | assumption | (apply Blk.newAt; (focus (simp; done))) | apply Blk.alloc | apply Blk.setRow | apply Blk.drewN | apply Blk.drew | (refine Blk.setRow_other ?_ ?_ _; focus (first | omega | (simp; omega)))))); (focus exact szState); (focus (first | exact hS.out | (first | omega | (simp; done) | (simp; omega) | assumption))); (focus (first | omega | (simp; done) | (simp; omega) | assumption)); (focus exact hO.out); (focus (repeat (first | (apply setRow_eq_at; (focus (simp; done))) | (refine setRow_eq_past ?_ ?_; (focus (first | (simp; done) | omega | (simp; omega)))) | apply setRow_eq_drewN | apply setRow_eq_drew | rfl))); (try go_frame)))
    ((with_reducible apply l_ret2); (focus rfl); (focus rfl); (focus rfl); (focus (repeat (first | assumption | (apply Blk.newAt; (focus (simp; done))) | apply Blk.alloc | apply Blk.setRow | apply Blk.drewN | apply Blk.drew | (refine Blk.setRow_other ?_ ?_ _; focus (first | omega | (simp; omega)))))); (focus exact Try.underlying49); (focus rfl); (focus exact szState); (focus (first | exact hS.out | (first | omega | (simp; done) | (simp; omega) | assumption))); (focus rfl))
    exact ⟨rfl, below_setRow D1.out (by omega) _⟩
  have m2 : decide (1152921504606846976 < prev) = false := decide_eq_false k2
  have m3 : decide (1152921504606846976 < cur) = true := decide_eq_true (by have := Hb.out; omega)
  clear k1 k2
  case _ =>
    go_enter Try.func11, Try.ntmps11
    go_upto_region 1 with ((with_reducible apply l_alloc 49); (focus kernel_rfl); (try go_frame))
    simp only [World.size_alloc]
    rw [hzz.out]
    obtain ⟨wx, hwx⟩ : ∃ wx : World, wx = (w.alloc (.cells cs 49)).alloc (.cells Z 49) := ⟨_, rfl⟩
    have hbx : Below w.heap.size w wx := by rw [hwx]; exact (by (repeat (first | exact Below.refl _ _ | apply Below.drew | apply below_drewN | (refine Below.alloc ?_ ?_ _) | (refine below_setRow ?_ ?_ _) | (refine Below.setCell ?_ ?_ _) | (refine Below.trans ?_ (Below.mono (by assumption) ?_)) | omega | (focus (simp; done)) | (focus (simp; omega)))))
    have hkx : Blk wx w.heap.size 49 cs := by rw [hwx]; exact (by (repeat (first | assumption | (apply Blk.newAt; (focus (simp; done))) | apply Blk.alloc | apply Blk.setRow | apply Blk.drewN | apply Blk.drew | (refine Blk.setRow_other ?_ ?_ _; focus (first | omega | (simp; omega))))))
    have hzx : Blk wx (w.heap.size + 1) 49 Z := by rw [hwx]; exact (by (repeat (first | assumption | (apply Blk.newAt; (focus (simp; done))) | apply Blk.alloc | apply Blk.setRow | apply Blk.drewN | apply Blk.drew | (refine Blk.setRow_other ?_ ?_ _; focus (first | omega | (simp; omega))))))
    have hgx : w.heap.size + 2 ≤ wx.heap.size := by rw [hwx]; simp
    rw [← hwx]
    clear hwx
    have Bx := Lib.hid hbx
    go_wp2_with (first
      | ((with_reducible apply l_loadw 49); (focus rfl); (focus (repeat (first | assumption | (apply Blk.newAt; (focus (simp; done))) | apply Blk.alloc | apply Blk.setRow | apply Blk.drewN | apply Blk.drew | (refine Blk.setRow_other ?_ ?_ _; focus (first | omega | (simp; omega)))))); (focus exact Try.underlying49); (focus rfl); (focus exact szState); (focus (first | exact omega | (first | omega | (simp; done) | (simp; omega) | assumption))); (try go_frame))
      | (go_at_call 19; refine (rend_any cs L w.heap.size _ (by omega) ?_).mono ?_
         focus (exact (H.out.more hB).below Bx.out)
         rintro e w1 ⟨rfl, hb1⟩
         rw [HR.out]
         have hz1 : Blk w1 (w.heap.size + 1) 49 Z := Blk.below hzx hb1 (by omega)
         have D1 := Lib.hid (Below.trans hbx (Below.mono hb1 (by omega)))
         clear hkx hzx hbx hb1)
      | ((with_reducible apply l_build 49); (focus rfl); (focus exact hBu.out); (try go_frame))
      | ((with_reducible apply l_storew 49); (focus rfl); (focus rfl); (focus (repeat (first | assumption | (apply Blk.newAt; (focus (simp; done))) | apply Blk.alloc | apply Blk.setRow | apply Blk.drewN | apply Blk.drew | (refine Blk.setRow_other ?_ ?_ _; focus (first | omega | (simp; omega)))))); (focus exact szState); (focus (first | exact hS.out | (first | omega | (simp; done) | (simp; omega) | assumption))); (focus (first | omega | (simp; done) | (simp; omega) | assumption)); (focus exact hO.out); (focus (repeat (first | (apply setRow_eq_at; (focus (simp; done))) | (refine setRow_eq_past ?_ ?_; (focus (first | (simp; done) | omega | (simp; omega)))) | apply setRow_eq_drewN | apply setRow_eq_drew | rfl))); (try go_frame)))
    ((with_reducible apply l_ret2); (focus rfl); (focus rfl); (focus rfl); (focus (repeat (first | assumption | (apply Blk.newAt; (focus (simp; done))) | apply Blk.alloc | apply Blk.setRow | apply Blk.drewN | apply Blk.drew | (refine Blk.setRow_other ?_ ?_ _; focus (first | omega | (simp; omega)))))); (focus exact Try.underlying49); (focus rfl); (focus exact szState); (focus (first | exact hS.out | (first | omega | (simp; done) | (simp; omega) | assumption))); (focus rfl))
    exact ⟨rfl, below_setRow D1.out (by omega) _⟩

/-! What Weigh makes of two that are alike. -/
section
variable {c d : Array Value}
/-- They have the same cells off the slices. -/
def Alike (c d : Array Value) : Prop := ∀ i, ¬ isSO i → c[i]? = d[i]?
theorem Alike.symm (h : Alike c d) : Alike d c := fun i hi => (h i hi).symm
theorem Alike.patch (h : Alike c d) (h1 : c.size = 1957) (h2 : d.size = 1957) {o : Nat} {v : Array Value} (ho : o + v.size ≤ 1957) : Alike (patch c o v) (Go.Proofs.Ytikbkcidalippaa.patch d o v) := by
  intro i hi
  by_cases a : o ≤ i ∧ i < o + v.size
  · rw [get_patch_in (by omega) a.1 a.2, get_patch_in (by omega) a.1 a.2]
  · rw [get_patch_out (by omega) (by omega), get_patch_out (by omega) (by omega)]
    exact h i hi
theorem Alike.set (h : Alike c d) (h1 : c.size = 1957) (h2 : d.size = 1957) (k : Nat) (v : Value) : Alike (c.setIfInBounds k v) (d.setIfInBounds k v) := by
  intro i hi
  rw [Array.getElem?_setIfInBounds, Array.getElem?_setIfInBounds, h1, h2]
  split
  · rfl
  · exact h i hi
theorem Alike.ext (h : Alike c d) (h1 : c.size = 1957) (h2 : d.size = 1957) (a b : Nat) (hab : ∀ i, a ≤ i → i < b → ¬ isSO i) : c.extract a b = d.extract a b :=
  ext_congr_ (by rw [h1, h2]) a b fun i i1 i2 => h i (hab i i1 i2)
theorem Alike.root (h : Alike c d) (h1 : c.size = 1957) (h2 : d.size = 1957) (sl : Int) : rootOf c sl = rootOf d sl :=
  rootOf_congr (by rw [h1, h2]) (fun i i1 i2 => h i (by unfold isSO; omega)) sl
theorem Alike.shift (h : Alike c d) (h1 : WfC c) (h2 : WfC d) : Alike (shiftC c) (shiftC d) := by
  have s1 := h1.size
  have s2 := h2.size
  intro i hi
  by_cases a : i < 989 ∨ 1026 ≤ i
  · rw [shift_out s1 a, shift_out s2 a]; exact h i hi
  · by_cases a2 : 993 ≤ i
    · rw [shift_old s1 a2 (by omega), shift_old s2 a2 (by omega)]; exact h _ (by unfold isSO; omega)
    · by_cases a3 : i = 989
      · subst a3; rw [shift_bit0 s1, shift_bit0 s2]
      · rw [shift_bit s1 (by omega) (by omega), shift_bit s2 (by omega) (by omega)]; exact h _ (by unfold isSO; omega)
theorem Alike.mark (h : Alike c d) (h1 : WfC c) (h2 : WfC d) (e : Int) (b : Nat) : Alike (markC c e b) (markC d e b) := by
  have e1 : (chk e (rootOf d (e * 4))).size = 33 := size_chk (size_rootOf h2.size _)
  unfold markC
  rw [h.root h1.size h2.size]
  refine (h.patch h1.size h2.size (by omega)).set ?_ ?_ _ _
  · rw [size_patch (by have := h1.size; omega)]; exact h1.size
  · rw [size_patch (by have := h2.size; omega)]; exact h2.size
theorem Alike.prev (h : Alike c d) (h1 : WfC c) (h2 : WfC d) (ep all prev : Int) : Alike (prevC c ep all prev) (prevC d ep all prev) := by
  unfold prevC; split
  · exact h.mark h1 h2 _ _
  · exact h
theorem Alike.cur (h : Alike c d) (h1 : WfC c) (h2 : WfC d) (ep all cur : Int) : Alike (curC c ep all cur) (curC d ep all cur) := by
  unfold curC; split
  · exact h.mark h1 h2 _ _
  · exact h
theorem Alike.num (h : Alike c d) (i : Nat) (hi : ¬ isSO i) : cN c i = cN d i := cN_eq (h i hi)
theorem runTo_alike (h : Alike c d) (b : Nat) : ∀ m, b + m ≤ 4 → runTo c b m = runTo d b m
  | 0, _ => rfl
  | m + 1, hm => by
    unfold runTo
    rw [runTo_alike h b m (by omega), cB_eq (h (989 + b + m) (by unfold isSO; omega))]
theorem fin_alike {cs ds : Array Value} (h : Alike c d) (hc : WfC c) (hd : WfC d) (hs : Alike cs ds) (h1 : WfC cs) (h2 : WfC ds) (ep : Int) : ∀ k, Alike (finN cs c ep k) (finN ds d ep k)
  | 0 => h
  | k + 1 => by
    have hk := wayK_lt k
    have e0 : oldK cs (wayK k) = oldK ds (wayK k) := hs.ext h1.size h2.size _ _ (fun i i1 i2 => by unfold isSO; omega)
    have e1 : (oldK ds (wayK k)).size = 33 := by unfold oldK; have := h2.size; simp; omega
    have e2 : cN cs (993 + 33 * wayK k) = cN ds (993 + 33 * wayK k) := hs.num _ (by unfold isSO; omega)
    have e3 : runTo c (wayB k) (wayE k - wayB k) = runTo d (wayB k) (wayE k - wayB k) := runTo_alike h _ _ (by unfold wayB wayE; split <;> (try split) <;> (try split) <;> omega)
    unfold finN
    rw [e0, e2, e3]
    split
    · exact (fin_alike h hc hd hs h1 h2 ep k).patch (h1.fin hc ep k).size (h2.fin hd ep k).size (by omega)
    · exact fin_alike h hc hd hs h1 h2 ep k
theorem Alike.weigh (h : Alike c d) (h1 : WfC c) (h2 : WfC d) (all prev cur : Int) : Alike (weighC c all prev cur) (weighC d all prev cur) := by
  have e := h.num 33 (by decide)
  have he := weigh_epoch h2
  have a1 := h.shift h1 h2
  have p1 := h1.shift
  have p2 := h2.shift
  unfold weighC
  rw [e]
  have a2 := a1.prev p1 p2 (cN d 33 / 4) all prev
  exact fin_alike (a2.cur (p1.prev he) (p2.prev he) _ all cur) ((p1.prev he).cur he) ((p2.prev he).cur he) h h1 h2 _ 4
end
end Go.Proofs.Ytikbkcidalippaa
