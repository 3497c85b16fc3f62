/-
  state.Right: the walk: it answers whether the state is right.
-/
import Derived.Test.YtikbkcidalippaaLook
import Derived.Deep.DeepCutAuto
namespace Go.Proofs.Ytikbkcidalippaa
open Go.RowKit
attribute [local irreducible] Hid Blk
set_option maxRecDepth 100000

theorem cnt_of {w : World} {B : Nat} {L : Nat → List Value} {k n c : Nat} {a : Option Addr} (h : SlR w B (esz k) (eby k) a n c (L k)) (hk : 0 < esz k := by decide) : cnt L k = n := by
  unfold cnt; rw [h.len]; exact Nat.mul_div_cancel _ hk

/-- Three checkpoints, one behind the other. -/
theorem built_chk3 (x y z : Array Value) (hx : x.size = 33) (hy : y.size = 33) (hz : z.size = 33) : Try.prog.built 87 [(0, .agg x), (1, .agg y), (2, .agg z)] = some (x ++ y ++ z) := by
  have hs : (zc Try.prog 87).size = 99 := by kernel_rfl
  rw [built_array (by kernel_rfl) Try.underlying87 szCheck]
  generalize zc Try.prog 87 = Z at hs
  have h1 : (patch Z 0 x).size = 99 := by rw [size_patch (by omega)]; exact hs
  have h2 : (patch (patch Z 0 x) 33 y).size = 99 := by rw [size_patch (by omega)]; exact h1
  rw [fill_cons (off := 0) (by show some (0 * 33, 33) = some (0, x.size); rw [hx]) (by show 0 + x.size ≤ _; omega),
    fill_cons (off := 33) (by show some (1 * 33, 33) = some (33, y.size); rw [hy]) (by show 33 + y.size ≤ (patch Z 0 x).size; omega),
    fill_cons (off := 66) (by show some (2 * 33, 33) = some (66, z.size); rw [hz]) (by show 66 + z.size ≤ (patch (patch Z 0 x) 33 y).size; omega), fill_nil]
  congr 1
  apply Array.ext_getElem?
  intro i
  show (patch (patch (patch Z 0 x) 33 y) 66 z)[i]? = (x ++ y ++ z)[i]?
  simp only [Array.getElem?_append, Array.size_append]
  by_cases a1 : i < 33
  · rw [get_patch_out (by omega) (by omega), get_patch_out (by omega) (by omega), get_patch_in (by omega) (by omega) (by omega), if_pos (by omega), if_pos (by omega)]; rfl
  · by_cases a2 : i < 66
    · rw [get_patch_out (by omega) (by omega), get_patch_in (by omega) (by omega) (by omega), if_pos (by omega), if_neg (by omega), hx]
    · rw [if_neg (by omega)]
      by_cases a3 : i < 99
      · rw [get_patch_in (by omega) (by omega) (by omega), hx, hy]
      · rw [Array.getElem?_eq_none (by rw [size_patch (by omega)]; omega), Array.getElem?_eq_none (by omega)]

set_option maxHeartbeats 2000000 in
theorem right_no (cs : Array Value) (L : Nat → List Value) (B : Nat) (w : World) (_hB : B ≤ w.heap.size) (h : IsSt w B cs L)
    (hno : ¬ (cnt L 721 ≤ 65536 ∧ cnt L 722 = cnt L 721 ∧ cnt L 987 = cnt L 721 ∧ cnt L 988 = cnt L 721 ∧ cnt L 1092 = cnt L 721 ∧ cnt L 653 ≤ 1024 ∧ cnt L 719 ≤ 8 ∧ cN cs 33 < 1099511627776 ∧ cN cs 720 < 1099511627776 ∧ cN cs 43 ≤ cN cs 33)) :
    Calls Try.prog 24 #[.agg cs] w fun e w' => e = .returned (.bool false) ∧ Below w.heap.size w w' := by
  obtain ⟨ah, nh, ch, h653, sh⟩ := h.sl 653 (by decide)
  obtain ⟨ao, no, co, h719, so⟩ := h.sl 719 (by decide)
  obtain ⟨av, nv, cv, h721, sv⟩ := h.sl 721 (by decide)
  obtain ⟨ab, nb, cb, h722, sb⟩ := h.sl 722 (by decide)
  obtain ⟨ap, np, cp, h987, sp⟩ := h.sl 987 (by decide)
  obtain ⟨ac, nc, cc, h988, sc⟩ := h.sl 988 (by decide)
  obtain ⟨as_, ns, cs_, h1092, ss⟩ := h.sl 1092 (by decide)
  have q653 := Lib.hid (cnt_of sh); have q719 := Lib.hid (cnt_of so); have q721 := Lib.hid (cnt_of sv); have q722 := Lib.hid (cnt_of sb)
  have q987 := Lib.hid (cnt_of sp); have q988 := Lib.hid (cnt_of sc); have q1092 := Lib.hid (cnt_of ss)
  have bh := Nat.le_trans sh.le sh.max; have bo := Nat.le_trans so.le so.max; have bv := Nat.le_trans sv.le sv.max; have bb := Nat.le_trans sb.le sb.max
  have bp := Nat.le_trans sp.le sp.max; have bc := Nat.le_trans sc.le sc.max; have bs := Nat.le_trans ss.le ss.max
  obtain ⟨h33, w33⟩ := h.wf.u64 33 rfl
  obtain ⟨h720, w720⟩ := h.wf.u64 720 rfl
  obtain ⟨h43, w43⟩ := h.wf.u64 43 rfl
  obtain ⟨h993, w993⟩ := h.wf.u64 993 rfl
  obtain ⟨h1026, w1026⟩ := h.wf.u64 1026 rfl
  obtain ⟨h1059, w1059⟩ := h.wf.u64 1059 rfl
  have H := Lib.hid h
  have hsz1 : 1957 ≤ cs.size := Nat.le_of_eq h.wf.size.symm
  have hsz2 : cs.size ≤ 1957 := Nat.le_of_eq h.wf.size
  have Sv := Lib.hid sv; have Ss := Lib.hid ss; have Sb := Lib.hid sb
  clear h sh so sv sb sp sc ss
  obtain ⟨_, _⟩ := w33; obtain ⟨_, _⟩ := w720; obtain ⟨_, _⟩ := w43; obtain ⟨_, _⟩ := w993; obtain ⟨_, _⟩ := w1026; obtain ⟨_, _⟩ := w1059
  have HNO := Lib.hid hno
  clear hno
  by_cases c1 : 65536 < nv
  case pos =>
    go_enter Try.func24, Try.ntmps24
    go_wp2
    go_ret
    exact ⟨rfl, (by (repeat (first | exact Below.refl _ _ | apply Below.drew | apply below_drewN | (refine Below.alloc ?_ ?_ _) | (refine below_setRow ?_ ?_ _) | (refine Below.setCell ?_ ?_ _) | (refine Below.trans ?_ (Below.mono (by assumption) ?_)) | omega | (focus (simp; done)) | (focus (simp; omega)))))⟩
  by_cases c722 : nb = nv
  case neg =>
    have e2 : ((nb : Int) == (nv : Int)) = false := by rw [beq_eq_false_iff_ne]; omega
    go_enter Try.func24, Try.ntmps24
    go_wp2
    go_ret
    exact ⟨rfl, (by (repeat (first | exact Below.refl _ _ | apply Below.drew | apply below_drewN | (refine Below.alloc ?_ ?_ _) | (refine below_setRow ?_ ?_ _) | (refine Below.setCell ?_ ?_ _) | (refine Below.trans ?_ (Below.mono (by assumption) ?_)) | omega | (focus (simp; done)) | (focus (simp; omega)))))⟩
  obtain rfl : nv = nb := c722.symm
  by_cases c987 : np = nv
  case neg =>
    have e2 : ((np : Int) == (nv : Int)) = false := by rw [beq_eq_false_iff_ne]; omega
    go_enter Try.func24, Try.ntmps24
    go_wp2
    go_ret
    exact ⟨rfl, (by (repeat (first | exact Below.refl _ _ | apply Below.drew | apply below_drewN | (refine Below.alloc ?_ ?_ _) | (refine below_setRow ?_ ?_ _) | (refine Below.setCell ?_ ?_ _) | (refine Below.trans ?_ (Below.mono (by assumption) ?_)) | omega | (focus (simp; done)) | (focus (simp; omega)))))⟩
  obtain rfl : nv = np := c987.symm
  by_cases c988 : nc = nv
  case neg =>
    have e2 : ((nc : Int) == (nv : Int)) = false := by rw [beq_eq_false_iff_ne]; omega
    go_enter Try.func24, Try.ntmps24
    go_wp2
    go_ret
    exact ⟨rfl, (by (repeat (first | exact Below.refl _ _ | apply Below.drew | apply below_drewN | (refine Below.alloc ?_ ?_ _) | (refine below_setRow ?_ ?_ _) | (refine Below.setCell ?_ ?_ _) | (refine Below.trans ?_ (Below.mono (by assumption) ?_)) | omega | (focus (simp; done)) | (focus (simp; omega)))))⟩
  obtain rfl : nv = nc := c988.symm
  by_cases c1092 : ns = nv
  case neg =>
    have e2 : ((ns : Int) == (nv : Int)) = false := by rw [beq_eq_false_iff_ne]; omega
    go_enter Try.func24, Try.ntmps24
    go_wp2
    go_ret
    exact ⟨rfl, (by (repeat (first | exact Below.refl _ _ | apply Below.drew | apply below_drewN | (refine Below.alloc ?_ ?_ _) | (refine below_setRow ?_ ?_ _) | (refine Below.setCell ?_ ?_ _) | (refine Below.trans ?_ (Below.mono (by assumption) ?_)) | omega | (focus (simp; done)) | (focus (simp; omega)))))⟩
  obtain rfl : nv = ns := c1092.symm
  by_cases c653 : 1024 < nh
  case pos =>
    go_enter Try.func24, Try.ntmps24
    go_wp2
    go_ret
    exact ⟨rfl, (by (repeat (first | exact Below.refl _ _ | apply Below.drew | apply below_drewN | (refine Below.alloc ?_ ?_ _) | (refine below_setRow ?_ ?_ _) | (refine Below.setCell ?_ ?_ _) | (refine Below.trans ?_ (Below.mono (by assumption) ?_)) | omega | (focus (simp; done)) | (focus (simp; omega)))))⟩
  by_cases c719 : 8 < no
  case pos =>
    go_enter Try.func24, Try.ntmps24
    go_wp2
    go_ret
    exact ⟨rfl, (by (repeat (first | exact Below.refl _ _ | apply Below.drew | apply below_drewN | (refine Below.alloc ?_ ?_ _) | (refine below_setRow ?_ ?_ _) | (refine Below.setCell ?_ ?_ _) | (refine Below.trans ?_ (Below.mono (by assumption) ?_)) | omega | (focus (simp; done)) | (focus (simp; omega)))))⟩
  by_cases c33 : 1099511627776 ≤ cN cs 33
  case pos =>
    go_enter Try.func24, Try.ntmps24
    go_wp2
    go_ret
    exact ⟨rfl, (by (repeat (first | exact Below.refl _ _ | apply Below.drew | apply below_drewN | (refine Below.alloc ?_ ?_ _) | (refine below_setRow ?_ ?_ _) | (refine Below.setCell ?_ ?_ _) | (refine Below.trans ?_ (Below.mono (by assumption) ?_)) | omega | (focus (simp; done)) | (focus (simp; omega)))))⟩
  by_cases c720 : 1099511627776 ≤ cN cs 720
  case pos =>
    go_enter Try.func24, Try.ntmps24
    go_wp2
    go_ret
    exact ⟨rfl, (by (repeat (first | exact Below.refl _ _ | apply Below.drew | apply below_drewN | (refine Below.alloc ?_ ?_ _) | (refine below_setRow ?_ ?_ _) | (refine Below.setCell ?_ ?_ _) | (refine Below.trans ?_ (Below.mono (by assumption) ?_)) | omega | (focus (simp; done)) | (focus (simp; omega)))))⟩
  by_cases c43 : cN cs 33 < cN cs 43
  case pos =>
    go_enter Try.func24, Try.ntmps24
    go_wp2
    go_ret
    exact ⟨rfl, (by (repeat (first | exact Below.refl _ _ | apply Below.drew | apply below_drewN | (refine Below.alloc ?_ ?_ _) | (refine below_setRow ?_ ?_ _) | (refine Below.setCell ?_ ?_ _) | (refine Below.trans ?_ (Below.mono (by assumption) ?_)) | omega | (focus (simp; done)) | (focus (simp; omega)))))⟩
  exfalso
  apply HNO.out
  rw [q721.out, q722.out, q987.out, q988.out, q1092.out, q653.out, q719.out]
  omega

end Go.Proofs.Ytikbkcidalippaa
