/-
  pharosref10.Right: the walk: it answers whether the state is right.
-/
import Derived.Test.YtikbkcidalippaaRightGo
import Derived.Test.YtikbkcidalippaaRefBase
namespace Go.Proofs.Ytikbkcidalippaa
open Go.RowKit
attribute [local irreducible] Hid Blk
set_option maxRecDepth 100000

set_option maxHeartbeats 2000000 in
theorem rright_no (cs : Array Value) (L : Nat → List Value) (B : Nat) (w : World) (_hB : B ≤ w.heap.size) (h : IsSt w B cs L)
    (hno : ¬ (cnt L 721 ≤ 65536 ∧ cnt L 722 = cnt L 721 ∧ cnt L 987 = cnt L 721 ∧ cnt L 988 = cnt L 721 ∧ cnt L 1092 = cnt L 721 ∧ cnt L 653 ≤ 1024 ∧ cnt L 719 ≤ 8 ∧ cN cs 33 < 1099511627776 ∧ cN cs 720 < 1099511627776 ∧ cN cs 43 ≤ cN cs 33)) :
    Calls Try.prog 33 #[.agg cs] w fun e w' => e = .returned (.bool false) ∧ Below w.heap.size w w' := by
  obtain ⟨ah, nh, ch, h653, sh⟩ := h.sl 653 (by decide)
  obtain ⟨ao, no, co, h719, so⟩ := h.sl 719 (by decide)
  obtain ⟨av, nv, cv, h721, sv⟩ := h.sl 721 (by decide)
  obtain ⟨ab, nb, cb, h722, sb⟩ := h.sl 722 (by decide)
  obtain ⟨ap, np, cp, h987, sp⟩ := h.sl 987 (by decide)
  obtain ⟨ac, nc, cc, h988, sc⟩ := h.sl 988 (by decide)
  obtain ⟨as_, ns, cs_, h1092, ss⟩ := h.sl 1092 (by decide)
  have q653 := Lib.hid (cnt_of sh); have q719 := Lib.hid (cnt_of so); have q721 := Lib.hid (cnt_of sv); have q722 := Lib.hid (cnt_of sb)
  have q987 := Lib.hid (cnt_of sp); have q988 := Lib.hid (cnt_of sc); have q1092 := Lib.hid (cnt_of ss)
  have bh := Nat.le_trans sh.le sh.max; have bo := Nat.le_trans so.le so.max; have bv := Nat.le_trans sv.le sv.max; have bb := Nat.le_trans sb.le sb.max
  have bp := Nat.le_trans sp.le sp.max; have bc := Nat.le_trans sc.le sc.max; have bs := Nat.le_trans ss.le ss.max
  obtain ⟨h33, w33⟩ := h.wf.u64 33 rfl
  obtain ⟨h720, w720⟩ := h.wf.u64 720 rfl
  obtain ⟨h43, w43⟩ := h.wf.u64 43 rfl
  obtain ⟨h993, w993⟩ := h.wf.u64 993 rfl
  obtain ⟨h1026, w1026⟩ := h.wf.u64 1026 rfl
  obtain ⟨h1059, w1059⟩ := h.wf.u64 1059 rfl
  have H := Lib.hid h
  have hsz1 : 1957 ≤ cs.size := Nat.le_of_eq h.wf.size.symm
  have hsz2 : cs.size ≤ 1957 := Nat.le_of_eq h.wf.size
  have Sv := Lib.hid sv; have Ss := Lib.hid ss; have Sb := Lib.hid sb
  clear h sh so sv sb sp sc ss
  obtain ⟨_, _⟩ := w33; obtain ⟨_, _⟩ := w720; obtain ⟨_, _⟩ := w43; obtain ⟨_, _⟩ := w993; obtain ⟨_, _⟩ := w1026; obtain ⟨_, _⟩ := w1059
  have HNO := Lib.hid hno
  clear hno
  by_cases c1 : 65536 < nv
  case pos =>
    go_enter Try.func33, Try.ntmps33
    go_wp2
    go_ret
    exact ⟨rfl, (by (repeat (first | exact Below.refl _ _ | apply Below.drew | apply below_drewN | (refine Below.alloc ?_ ?_ _) | (refine below_setRow ?_ ?_ _) | (refine Below.setCell ?_ ?_ _) | (refine Below.trans ?_ (Below.mono (by assumption) ?_)) | omega | (focus (simp; done)) | (focus (simp; omega)))))⟩
  by_cases c722 : nb = nv
  case neg =>
    have e2 : ((nv : Int) != (nb : Int)) = true := by rw [bne_iff_ne]; omega
    go_enter Try.func33, Try.ntmps33
    go_wp2
    go_ret
    exact ⟨rfl, (by (repeat (first | exact Below.refl _ _ | apply Below.drew | apply below_drewN | (refine Below.alloc ?_ ?_ _) | (refine below_setRow ?_ ?_ _) | (refine Below.setCell ?_ ?_ _) | (refine Below.trans ?_ (Below.mono (by assumption) ?_)) | omega | (focus (simp; done)) | (focus (simp; omega)))))⟩
  obtain rfl : nv = nb := c722.symm
  by_cases c987 : np = nv
  case neg =>
    have e2 : ((nv : Int) != (np : Int)) = true := by rw [bne_iff_ne]; omega
    go_enter Try.func33, Try.ntmps33
    go_wp2
    go_ret
    exact ⟨rfl, (by (repeat (first | exact Below.refl _ _ | apply Below.drew | apply below_drewN | (refine Below.alloc ?_ ?_ _) | (refine below_setRow ?_ ?_ _) | (refine Below.setCell ?_ ?_ _) | (refine Below.trans ?_ (Below.mono (by assumption) ?_)) | omega | (focus (simp; done)) | (focus (simp; omega)))))⟩
  obtain rfl : nv = np := c987.symm
  by_cases c988 : nc = nv
  case neg =>
    have e2 : ((nv : Int) != (nc : Int)) = true := by rw [bne_iff_ne]; omega
    go_enter Try.func33, Try.ntmps33
    go_wp2
    go_ret
    exact ⟨rfl, (by (repeat (first | exact Below.refl _ _ | apply Below.drew | apply below_drewN | (refine Below.alloc ?_ ?_ _) | (refine below_setRow ?_ ?_ _) | (refine Below.setCell ?_ ?_ _) | (refine Below.trans ?_ (Below.mono (by assumption) ?_)) | omega | (focus (simp; done)) | (focus (simp; omega)))))⟩
  obtain rfl : nv = nc := c988.symm
  by_cases c1092 : ns = nv
  case neg =>
    have e2 : ((nv : Int) != (ns : Int)) = true := by rw [bne_iff_ne]; omega
    go_enter Try.func33, Try.ntmps33
    go_wp2
    go_ret
    exact ⟨rfl, (by (repeat (first | exact Below.refl _ _ | apply Below.drew | apply below_drewN | (refine Below.alloc ?_ ?_ _) | (refine below_setRow ?_ ?_ _) | (refine Below.setCell ?_ ?_ _) | (refine Below.trans ?_ (Below.mono (by assumption) ?_)) | omega | (focus (simp; done)) | (focus (simp; omega)))))⟩
  obtain rfl : nv = ns := c1092.symm
  by_cases c653 : 1024 < nh
  case pos =>
    go_enter Try.func33, Try.ntmps33
    go_wp2
    go_ret
    exact ⟨rfl, (by (repeat (first | exact Below.refl _ _ | apply Below.drew | apply below_drewN | (refine Below.alloc ?_ ?_ _) | (refine below_setRow ?_ ?_ _) | (refine Below.setCell ?_ ?_ _) | (refine Below.trans ?_ (Below.mono (by assumption) ?_)) | omega | (focus (simp; done)) | (focus (simp; omega)))))⟩
  by_cases c719 : 8 < no
  case pos =>
    go_enter Try.func33, Try.ntmps33
    go_wp2
    go_ret
    exact ⟨rfl, (by (repeat (first | exact Below.refl _ _ | apply Below.drew | apply below_drewN | (refine Below.alloc ?_ ?_ _) | (refine below_setRow ?_ ?_ _) | (refine Below.setCell ?_ ?_ _) | (refine Below.trans ?_ (Below.mono (by assumption) ?_)) | omega | (focus (simp; done)) | (focus (simp; omega)))))⟩
  by_cases c33 : 1099511627776 ≤ cN cs 33
  case pos =>
    go_enter Try.func33, Try.ntmps33
    go_wp2
    go_ret
    exact ⟨rfl, (by (repeat (first | exact Below.refl _ _ | apply Below.drew | apply below_drewN | (refine Below.alloc ?_ ?_ _) | (refine below_setRow ?_ ?_ _) | (refine Below.setCell ?_ ?_ _) | (refine Below.trans ?_ (Below.mono (by assumption) ?_)) | omega | (focus (simp; done)) | (focus (simp; omega)))))⟩
  by_cases c720 : 1099511627776 ≤ cN cs 720
  case pos =>
    go_enter Try.func33, Try.ntmps33
    go_wp2
    go_ret
    exact ⟨rfl, (by (repeat (first | exact Below.refl _ _ | apply Below.drew | apply below_drewN | (refine Below.alloc ?_ ?_ _) | (refine below_setRow ?_ ?_ _) | (refine Below.setCell ?_ ?_ _) | (refine Below.trans ?_ (Below.mono (by assumption) ?_)) | omega | (focus (simp; done)) | (focus (simp; omega)))))⟩
  by_cases c43 : cN cs 33 < cN cs 43
  case pos =>
    go_enter Try.func33, Try.ntmps33
    go_wp2
    go_ret
    exact ⟨rfl, (by (repeat (first | exact Below.refl _ _ | apply Below.drew | apply below_drewN | (refine Below.alloc ?_ ?_ _) | (refine below_setRow ?_ ?_ _) | (refine Below.setCell ?_ ?_ _) | (refine Below.trans ?_ (Below.mono (by assumption) ?_)) | omega | (focus (simp; done)) | (focus (simp; omega)))))⟩
  exfalso
  apply HNO.out
  rw [q721.out, q722.out, q987.out, q988.out, q1092.out, q653.out, q719.out]
  omega


set_option maxHeartbeats 4000000 in
theorem rright_go (cs : Array Value) (L : Nat → List Value) (B : Nat) (w : World) (hB : B ≤ w.heap.size) (h : IsSt w B cs L)
    (f1 : cnt L 721 ≤ 65536) (f2 : cnt L 722 = cnt L 721) (f3 : cnt L 987 = cnt L 721) (f4 : cnt L 988 = cnt L 721) (f5 : cnt L 1092 = cnt L 721) (f6 : cnt L 653 ≤ 1024) (f7 : cnt L 719 ≤ 8) (c33 : cN cs 33 < 1099511627776) (c720 : cN cs 720 < 1099511627776) (c43 : cN cs 43 ≤ cN cs 33) :
    Calls Try.prog 33 #[.agg cs] w fun e w' => e = .returned (.bool (rightB cs L)) ∧ Below w.heap.size w w' := by
  have F := Lib.hid (And.intro f1 (And.intro f2 (And.intro f3 (And.intro f4 (And.intro f5 (And.intro f6 (And.intro f7 (And.intro c33 (And.intro c720 c43)))))))))
  obtain ⟨ah, nh, ch, h653, sh⟩ := h.sl 653 (by decide)
  obtain ⟨ao, no, co, h719, so⟩ := h.sl 719 (by decide)
  obtain ⟨av, nv, cv, h721, sv⟩ := h.sl 721 (by decide)
  obtain ⟨ab, nb, cb, h722, sb⟩ := h.sl 722 (by decide)
  obtain ⟨ap, np, cp, h987, sp⟩ := h.sl 987 (by decide)
  obtain ⟨ac, nc, cc, h988, sc⟩ := h.sl 988 (by decide)
  obtain ⟨as_, ns, cs_, h1092, ss⟩ := h.sl 1092 (by decide)
  have q653 := Lib.hid (cnt_of sh); have q719 := Lib.hid (cnt_of so); have q721 := Lib.hid (cnt_of sv); have q722 := Lib.hid (cnt_of sb)
  have q987 := Lib.hid (cnt_of sp); have q988 := Lib.hid (cnt_of sc); have q1092 := Lib.hid (cnt_of ss)
  have bh := Nat.le_trans sh.le sh.max; have bo := Nat.le_trans so.le so.max; have bv := Nat.le_trans sv.le sv.max; have bb := Nat.le_trans sb.le sb.max
  have bp := Nat.le_trans sp.le sp.max; have bc := Nat.le_trans sc.le sc.max; have bs := Nat.le_trans ss.le ss.max
  obtain ⟨h33, w33⟩ := h.wf.u64 33 rfl
  obtain ⟨h720, w720⟩ := h.wf.u64 720 rfl
  obtain ⟨h43, w43⟩ := h.wf.u64 43 rfl
  obtain ⟨h993, w993⟩ := h.wf.u64 993 rfl
  obtain ⟨h1026, w1026⟩ := h.wf.u64 1026 rfl
  obtain ⟨h1059, w1059⟩ := h.wf.u64 1059 rfl
  have H := Lib.hid h
  have hsz1 : 1957 ≤ cs.size := Nat.le_of_eq h.wf.size.symm
  have hsz2 : cs.size ≤ 1957 := Nat.le_of_eq h.wf.size
  have Sv := Lib.hid sv; have Ss := Lib.hid ss; have Sb := Lib.hid sb
  clear h sh so sv sb sp sc ss
  obtain ⟨_, _⟩ := w33; obtain ⟨_, _⟩ := w720; obtain ⟨_, _⟩ := w43; obtain ⟨_, _⟩ := w993; obtain ⟨_, _⟩ := w1026; obtain ⟨_, _⟩ := w1059
  rw [q721.out] at f1 f2 f3 f4 f5
  rw [q722.out] at f2; rw [q987.out] at f3; rw [q988.out] at f4; rw [q1092.out] at f5; rw [q653.out] at f6; rw [q719.out] at f7
  obtain rfl := f2.symm; obtain rfl := f3.symm; obtain rfl := f4.symm; obtain rfl := f5.symm
  clear f2 f3 f4 f5
  have c1 : ¬ 65536 < nv := by omega
  have c2 : ¬ 1024 < nh := by omega
  have c3 : ¬ 8 < no := by omega
  clear f1 f6 f7
  have d1 : decide (65536 < (nv : Int)) = false := decide_eq_false (by omega)
  have d2 : decide (1024 < (nh : Int)) = false := decide_eq_false (by omega)
  have d3 : decide (8 < (no : Int)) = false := decide_eq_false (by omega)
  go_enter Try.func33, Try.ntmps33
  go_upto_region 7 with fail
  by_cases o1 : cN cs 993 ≤ cN cs 33 / 4
  case neg =>
    have R := Lib.hid (rightB_no (cs := cs) (L := L) fun h => o1 h.old)
    have k1 : decide (cN cs 33 / 4 < cN cs 993) = true := decide_eq_true (by omega)
    clear o1
    go_wp2
    go_ret
    exact ⟨ret_bool R.out.symm, (by (repeat (first | exact Below.refl _ _ | apply Below.drew | apply below_drewN | (refine Below.alloc ?_ ?_ _) | (refine below_setRow ?_ ?_ _) | (refine Below.setCell ?_ ?_ _) | (refine Below.trans ?_ (Below.mono (by assumption) ?_)) | omega | (focus (simp; done)) | (focus (simp; omega)))))⟩
  have k1 : decide (cN cs 33 / 4 < cN cs 993) = false := decide_eq_false (by omega)
  by_cases o2 : cN cs 1026 ≤ cN cs 33 / 4
  case neg =>
    have R := Lib.hid (rightB_no (cs := cs) (L := L) fun h => o2 h.just)
    have k2 : decide (cN cs 33 / 4 < cN cs 1026) = true := decide_eq_true (by omega)
    clear o2
    go_wp2
    go_ret
    exact ⟨ret_bool R.out.symm, (by (repeat (first | exact Below.refl _ _ | apply Below.drew | apply below_drewN | (refine Below.alloc ?_ ?_ _) | (refine below_setRow ?_ ?_ _) | (refine Below.setCell ?_ ?_ _) | (refine Below.trans ?_ (Below.mono (by assumption) ?_)) | omega | (focus (simp; done)) | (focus (simp; omega)))))⟩
  have k2 : decide (cN cs 33 / 4 < cN cs 1026) = false := decide_eq_false (by omega)
  by_cases o3 : cN cs 1059 ≤ cN cs 33 / 4
  case neg =>
    have R := Lib.hid (rightB_no (cs := cs) (L := L) fun h => o3 h.fin)
    have k3 : decide (cN cs 33 / 4 < cN cs 1059) = true := decide_eq_true (by omega)
    clear o3
    go_wp2
    go_ret
    exact ⟨ret_bool R.out.symm, (by (repeat (first | exact Below.refl _ _ | apply Below.drew | apply below_drewN | (refine Below.alloc ?_ ?_ _) | (refine below_setRow ?_ ?_ _) | (refine Below.setCell ?_ ?_ _) | (refine Below.trans ?_ (Below.mono (by assumption) ?_)) | omega | (focus (simp; done)) | (focus (simp; omega)))))⟩
  have k3 : decide (cN cs 33 / 4 < cN cs 1059) = false := decide_eq_false (by omega)
  have O := Lib.hid (And.intro o1 (And.intro o2 o3))
  go_upto_region 9 with fail
  clear k1 k2 k3 o1 o2 o3
  go_wp2
  go_loopw [5] (fun i wr => ∃ k : Nat, k ≤ nv ∧ i = .int .i64 k ∧ Below w.heap.size w wr ∧ Blk wr w.heap.size 49 cs ∧ Hid (∀ j, j < k → ValOK (L 721) j ∧ lN (L 1092) j ≤ 1099511627776)) (fun i _ => nv - (intOf i).toNat)
  case atStart => exact ⟨0, by omega, rfl, (by (repeat (first | exact Below.refl _ _ | apply Below.drew | apply below_drewN | (refine Below.alloc ?_ ?_ _) | (refine below_setRow ?_ ?_ _) | (refine Below.setCell ?_ ?_ _) | (refine Below.trans ?_ (Below.mono (by assumption) ?_)) | omega | (focus (simp; done)) | (focus (simp; omega))))), (by (repeat (first | assumption | (apply Blk.newAt; (focus (simp; done))) | apply Blk.alloc | apply Blk.setRow | apply Blk.drewN | apply Blk.drew | (refine Blk.setRow_other ?_ ?_ _; focus (first | omega | (simp; omega)))))), Lib.hid (fun j hj => absurd hj (by omega))⟩
  case round =>
    obtain ⟨k, hk, rfl, hbel, hblk, hv⟩ := hrel
    have hbs := hbel.size
    have hbc := hblk.lt
    have hcell := hblk.cell
    by_cases hlt : k < nv
    · have hSv : SlR wr B 86 128 av nv cv (L 721) := Sv.out.below (hbel.mono hB)
      have hSs : SlR wr B 1 8 as_ nv cs_ (L 1092) := Ss.out.below (hbel.mono hB)
      obtain ⟨b, o, rfl, hbB, hrng, hlen⟩ := hSv.range hlt
      obtain ⟨b2, o2', rfl, _, hcc⟩ := hSs.cells (by omega)
      have hL : (L 721).length = nv * 86 := hSv.len
      have hLs : (L 1092).length = nv := by simpa using hSs.len
      obtain ⟨ey, hy⟩ := H.out.eN 1092 k (by decide) (by simp [ek]) (by omega)
      have hcl := hcc k _ ey
      have g0 : ∀ j, j < 86 → (((L 721).drop (k * 86)).take 86)[j]? = (L 721)[86 * k + j]? := fun j hj => by
        rw [List.getElem?_take, if_pos hj, List.getElem?_drop]; congr 1; omega
      have e : ∀ j, 80 ≤ j → j < 86 → j ≠ 81 → (((L 721).drop (k * 86)).take 86)[j]? = some (.int .u64 (lN (L 721) (86 * k + j))) ∧ W64 (lN (L 721) (86 * k + j)) := fun j h1 h2 h3 => by
        rw [g0 j h2]
        refine H.out.eN 721 _ (by decide) ?_ (by omega)
        have hm : (86 * k + j) % 86 = j := by omega
        unfold ek
        rw [if_neg (by decide), if_neg (by decide), if_pos rfl, hm, if_neg (by omega), if_neg h3]
      have ho1 : (((L 721).drop (k * 86)).take 86).toArray.all (·.oneCell') = true := all_oneCell_toArray fun v hv => by
        obtain ⟨j, hj, rfl⟩ := List.mem_iff_getElem.1 hv
        have hj2 : j < 86 := by rw [hlen] at hj; exact hj
        have := g0 j hj2
        rw [List.getElem?_eq_getElem hj] at this
        exact CK.ok_one (H.out.el 721 (by decide) _ _ this.symm)
      obtain ⟨e80, w80⟩ := e 80 (by omega) (by omega) (by omega)
      obtain ⟨e82, w82⟩ := e 82 (by omega) (by omega) (by omega)
      obtain ⟨e83, w83⟩ := e 83 (by omega) (by omega) (by omega)
      obtain ⟨e84, w84⟩ := e 84 (by omega) (by omega) (by omega)
      obtain ⟨e85, w85⟩ := e 85 (by omega) (by omega) (by omega)
      have HVN : Hid ((lN (L 721) (86 * k + 80) ≤ 32000000000 ∧ lN (L 721) (86 * k + 80) % 1000000000 = 0 ∧ EpOK (lN (L 721) (86 * k + 82)) ∧ EpOK (lN (L 721) (86 * k + 83)) ∧ EpOK (lN (L 721) (86 * k + 84)) ∧ EpOK (lN (L 721) (86 * k + 85))) → ValOK (L 721) k) := Lib.hid fun h => h
      have HVR : Hid (∀ h : RightP cs L, lN (L 721) (86 * k + 80) ≤ 32000000000 ∧ lN (L 721) (86 * k + 80) % 1000000000 = 0 ∧ EpOK (lN (L 721) (86 * k + 82)) ∧ EpOK (lN (L 721) (86 * k + 83)) ∧ EpOK (lN (L 721) (86 * k + 84)) ∧ EpOK (lN (L 721) (86 * k + 85))) := Lib.hid fun h => h.val k (by rw [q721.out]; exact hlt)
      have HSN : Hid (lN (L 1092) k ≤ 1099511627776 → lN (L 1092) k ≤ 1099511627776) := Lib.hid fun h => h
      have HSR : Hid (RightP cs L → lN (L 1092) k ≤ 1099511627776) := Lib.hid fun h => h.score k (by rw [q721.out]; exact hlt)
      have Ho1 := Lib.hid ho1
      have Hrng := Lib.hid hrng
      have Hlen := Lib.hid hlen
      clear g0 e ho1 hrng hlen hL hSv hSs hLs ey hcc
      generalize ((L 721).drop (k * 86)).take 86 = V at *
      obtain ⟨x80, hx80⟩ : ∃ x, x = lN (L 721) (86 * k + 80) := ⟨_, rfl⟩
      obtain ⟨x82, hx82⟩ : ∃ x, x = lN (L 721) (86 * k + 82) := ⟨_, rfl⟩
      obtain ⟨x83, hx83⟩ : ∃ x, x = lN (L 721) (86 * k + 83) := ⟨_, rfl⟩
      obtain ⟨x84, hx84⟩ : ∃ x, x = lN (L 721) (86 * k + 84) := ⟨_, rfl⟩
      obtain ⟨x85, hx85⟩ : ∃ x, x = lN (L 721) (86 * k + 85) := ⟨_, rfl⟩
      obtain ⟨y, hy'⟩ : ∃ x, x = lN (L 1092) k := ⟨_, rfl⟩
      rw [← hx80] at e80 w80 HVN HVR; rw [← hx82] at e82 w82 HVN HVR; rw [← hx83] at e83 w83 HVN HVR; rw [← hx84] at e84 w84 HVN HVR; rw [← hx85] at e85 w85 HVN HVR
      rw [← hy'] at hcl hy HSR
      have HSN : Hid (y ≤ 1099511627776 → lN (L 1092) k ≤ 1099511627776) := Lib.hid (by rw [hy']; exact HSN.out)
      clear hx80 hx82 hx83 hx84 hx85 hy'
      obtain ⟨_, _⟩ := w80; obtain ⟨_, _⟩ := w82; obtain ⟨_, _⟩ := w83; obtain ⟨_, _⟩ := w84; obtain ⟨_, _⟩ := w85; obtain ⟨_, _⟩ := hy
      have E5 := Lib.hid (And.intro e80 (And.intro e82 (And.intro e83 (And.intro e84 e85))))
      clear e80 e82 e83 e84 e85
      go_upto_region 13 with (first | ((with_reducible apply l_loadr 82); (focus rfl); (focus (repeat (first | exact Hrng.out | assumption | apply World.rangeAt_alloc))); (focus exact Try.underlying82); (focus rfl); (focus exact szVal); (focus exact Hlen.out); (try go_frame)) | ((with_reducible apply l_alloc 82); (focus kernel_rfl); (try go_frame)) | ((with_reducible apply l_storew 82); (focus rfl); (focus rfl); (focus (repeat (first | assumption | (apply Blk.newAt; (focus (simp; done))) | apply Blk.alloc | apply Blk.setRow | apply Blk.drewN | apply Blk.drew | (refine Blk.setRow_other ?_ ?_ _; focus (first | omega | (simp; omega)))))); (focus exact szVal); (focus (first | exact (by simpa using Hlen.out) | (first | omega | (simp; done) | (simp; omega) | assumption))); (focus (first | omega | (simp; done) | (simp; omega) | assumption)); (focus exact Ho1.out); (focus (repeat (first | (apply setRow_eq_at; (focus (simp; done))) | (refine setRow_eq_past ?_ ?_; (focus (first | (simp; done) | omega | (simp; omega)))) | apply setRow_eq_drewN | apply setRow_eq_drew | rfl))); (try go_frame)))
      obtain ⟨wo, hwo⟩ : ∃ wo : World, wo = wr.alloc (.cells V.toArray 82) := ⟨_, rfl⟩
      have hbel2 : Hid (Below w.heap.size w wo) := Lib.hid (by rw [hwo]; exact (by (repeat (first | exact Below.refl _ _ | apply Below.drew | apply below_drewN | (refine Below.alloc ?_ ?_ _) | (refine below_setRow ?_ ?_ _) | (refine Below.setCell ?_ ?_ _) | (refine Below.trans ?_ (Below.mono (by assumption) ?_)) | omega | (focus (simp; done)) | (focus (simp; omega))))))
      have hblk2 : Hid (Blk wo w.heap.size 49 cs) := Lib.hid (by rw [hwo]; exact (by (repeat (first | assumption | (apply Blk.newAt; (focus (simp; done))) | apply Blk.alloc | apply Blk.setRow | apply Blk.drewN | apply Blk.drew | (refine Blk.setRow_other ?_ ?_ _; focus (first | omega | (simp; omega)))))))
      have hvn : ∀ j u, V[j]? = some u → wo.cell? ⟨wr.heap.size, j, none⟩ = some u := fun j u hu => by
        rw [hwo, (Blk.new wr 82 V.toArray).cell j]; simpa using hu
      obtain ⟨e80, e82, e83, e84, e85⟩ := E5.out
      have n80 := hvn 80 _ e80; have n82 := hvn 82 _ e82; have n83 := hvn 83 _ e83; have n84 := hvn 84 _ e84; have n85 := hvn 85 _ e85
      have ncl : wo.cell? ⟨b2, o2' + k, none⟩ = some (.int .u64 y) := by
        rw [hwo, World.cell?_alloc_lt _ _ _ (World.block_lt_of_cell? _ _ hcl)]; exact hcl
      have nst : wo.cell? ⟨w.heap.size, 1092, none⟩ = some (.slice (some ⟨b2, o2', none⟩) nv cs_) := by rw [hblk2.out.cell]; exact h1092
      rw [← hwo]
      clear hwo hvn e80 e82 e83 e84 e85 hbel hblk hcell hcl
      by_cases v1 : 32000000000 < x80
      · have d1 : decide (32000000000 < x80) = true := decide_eq_true v1
        have R := Lib.hid (rightB_no (cs := cs) (L := L) fun h => by have := (HVR.out h).1; omega)
        go_wp2_with (go_at_call 54; refine (repok_any _ ⟨by assumption, by assumption⟩ _).mono ?_; rintro e w' ⟨rfl, rfl⟩)
        go_ret
        exact ⟨ret_bool R.out.symm, hbel2.out⟩
      have d1 : decide (32000000000 < x80) = false := decide_eq_false v1
      by_cases v2 : x80 % 1000000000 = 0
      case neg =>
        have v3 : (x80 % 1000000000 != 0) = true := bne_iff_ne.2 v2
        have V2 := Lib.hid v2
        clear v2
        have R := Lib.hid (rightB_no (cs := cs) (L := L) fun h => by exact V2.out (HVR.out h).2.1)
        go_wp2_with (go_at_call 54; refine (repok_any _ ⟨by assumption, by assumption⟩ _).mono ?_; rintro e w' ⟨rfl, rfl⟩)
        go_ret
        exact ⟨ret_bool R.out.symm, hbel2.out⟩
      have v3 : (x80 % 1000000000 != 0) = false := by rw [v2]; rfl
      have HV2 := Lib.hid v2
      clear v2
      have hd82 : epB x82 = true ∨ epB x82 = false := by cases epB x82 <;> simp
      rcases hd82 with p82 | p82
      case inr =>
        have E := Lib.hid p82
        have R := Lib.hid (rightB_no (cs := cs) (L := L) fun h => by have := epB_iff.2 (HVR.out h).2.2.1; rw [E.out] at this; cases this)
        go_wp2_with (go_at_call 54; refine (repok_any _ ⟨by assumption, by assumption⟩ _).mono ?_; rintro e w' ⟨rfl, rfl⟩)
        go_ret
        exact ⟨ret_bool R.out.symm, hbel2.out⟩
      have hd83 : epB x83 = true ∨ epB x83 = false := by cases epB x83 <;> simp
      rcases hd83 with p83 | p83
      case inr =>
        have E := Lib.hid p83
        have R := Lib.hid (rightB_no (cs := cs) (L := L) fun h => by have := epB_iff.2 (HVR.out h).2.2.2.1; rw [E.out] at this; cases this)
        go_wp2_with (go_at_call 54; refine (repok_any _ ⟨by assumption, by assumption⟩ _).mono ?_; rintro e w' ⟨rfl, rfl⟩)
        go_ret
        exact ⟨ret_bool R.out.symm, hbel2.out⟩
      have hd84 : epB x84 = true ∨ epB x84 = false := by cases epB x84 <;> simp
      rcases hd84 with p84 | p84
      case inr =>
        have E := Lib.hid p84
        have R := Lib.hid (rightB_no (cs := cs) (L := L) fun h => by have := epB_iff.2 (HVR.out h).2.2.2.2.1; rw [E.out] at this; cases this)
        go_wp2_with (go_at_call 54; refine (repok_any _ ⟨by assumption, by assumption⟩ _).mono ?_; rintro e w' ⟨rfl, rfl⟩)
        go_ret
        exact ⟨ret_bool R.out.symm, hbel2.out⟩
      have hd85 : epB x85 = true ∨ epB x85 = false := by cases epB x85 <;> simp
      rcases hd85 with p85 | p85
      case inr =>
        have E := Lib.hid p85
        have R := Lib.hid (rightB_no (cs := cs) (L := L) fun h => by have := epB_iff.2 (HVR.out h).2.2.2.2.2; rw [E.out] at this; cases this)
        go_wp2_with (go_at_call 54; refine (repok_any _ ⟨by assumption, by assumption⟩ _).mono ?_; rintro e w' ⟨rfl, rfl⟩)
        go_ret
        exact ⟨ret_bool R.out.symm, hbel2.out⟩
      by_cases v7 : 1099511627776 < y
      · have d7 : decide (1099511627776 < y) = true := decide_eq_true v7
        have R := Lib.hid (rightB_no (cs := cs) (L := L) fun h => by have := HSR.out h; omega)
        go_wp2_with (go_at_call 54; refine (repok_any _ ⟨by assumption, by assumption⟩ _).mono ?_; rintro e w' ⟨rfl, rfl⟩)
        go_ret
        exact ⟨ret_bool R.out.symm, hbel2.out⟩
      have d7 : decide (1099511627776 < y) = false := decide_eq_false v7
      have hok : Hid (∀ j, j < k + 1 → ValOK (L 721) j ∧ lN (L 1092) j ≤ 1099511627776) := Lib.hid (fun j hj => by
        rcases Nat.lt_or_ge j k with h1 | h1
        · exact hv.out j h1
        · obtain rfl : j = k := by omega
          exact ⟨HVN.out ⟨by omega, HV2.out, epB_iff.1 p82, epB_iff.1 p83, epB_iff.1 p84, epB_iff.1 p85⟩, HSN.out (by omega)⟩)
      clear hv
      go_wp2_with (go_at_call 54; refine (repok_any _ ⟨by assumption, by assumption⟩ _).mono ?_; rintro e w' ⟨rfl, rfl⟩)
      go_roundw
      case rel => exact ⟨k + 1, by omega, by go_num, hbel2.out, hblk2.out, hok⟩
      case measure => simp [intOf]; omega
    · obtain rfl : k = nv := by omega
      clear hlt hk
      have hSb : SlR wr B 1 8 ab k cb (L 722) := Sb.out.below (hbel.mono hB)
      have HSb := Lib.hid hSb
      have Hbel := Lib.hid hbel
      have hsl : SlR wr (w.heap.size + 1) 1 8 (some ⟨w.heap.size, 979, none⟩) 8 8 (cs.extract 979 987).toList := ⟨by simp; omega, by omega, by omega, by omega, fun h => by (cases h), fun _ => ⟨_, _, rfl, by omega, fun j u hu => by
        rw [hblk.cell, ← hu]
        have hj : j < 8 := by
          have := (List.getElem?_eq_some_iff.1 hu).1
          simp at this; omega
        simp only [Array.getElem?_toList, Array.getElem?_extract]
        rw [if_pos (by omega)]⟩⟩
      have hsu : ∀ (j : Nat) u, (cs.extract 979 987).toList[j]? = some u → CK.u64.ok u := fun j u hu => by
        have hj : j < 8 := by
          have := (List.getElem?_eq_some_iff.1 hu).1
          simp at this; omega
        simp only [Array.getElem?_toList, Array.getElem?_extract] at hu
        rw [if_pos (by omega)] at hu
        have := H.out.wf.kind _ _ hu
        have hck : ck (979 + j) = .u64 := by
          unfold ck
          rw [if_neg (by omega), if_neg (by omega), if_pos (by omega)]
        rw [hck] at this; exact this
      have Hsl := Lib.hid hsl
      have Hsu := Lib.hid hsu
      have Hbu : Hid (∀ (j : Nat) u, (L 722)[j]? = some u → CK.u64.ok u) := Lib.hid (fun j u hu => by
        have := H.out.el 722 (by decide) j u hu
        simpa [ek] using this)
      have HR : Hid (RightP cs L ↔ sumN (L 722) ≤ 144115188075855872 ∧ sumN (cs.extract 979 987).toList ≤ 144115188075855872) := Lib.hid ⟨fun h => ⟨h.few, h.slash⟩, fun h => by
        obtain ⟨g1, g2, g3, g4, g5, g6, g7, g8, g9, g10⟩ := F.out
        exact ⟨g1, g2, g3, g4, g5, g6, g7, g8, g9, g10, O.out.1, O.out.2.1, O.out.2.2,
          fun i hi => (hv.out i (by rw [q721.out] at hi; exact hi)).1, fun i hi => (hv.out i (by rw [q721.out] at hi; exact hi)).2, h.1, h.2⟩⟩
      have hfr := hblk.frozen
      clear hsl hsu hSb hbel hv
      by_cases b1 : sumN (L 722) ≤ 144115188075855872
      · have d1 : decide (sumN (L 722) ≤ 144115188075855872) = true := decide_eq_true b1
        by_cases b2 : sumN (cs.extract 979 987).toList ≤ 144115188075855872
        · have R := Lib.hid (rightB_yes (HR.out.2 ⟨b1, b2⟩))
          have d2 : decide (sumN (cs.extract 979 987).toList ≤ 144115188075855872) = true := decide_eq_true b2
          go_wp2_with fail
          refine (rsum_any _ _ _ _ _ _ HSb.out Hbu.out).mono ?_
          rintro e w' ⟨rfl, rfl⟩
          simp only [d1]
          go_wp2_with fail
          refine (rsum_any _ _ _ _ _ _ Hsl.out Hsu.out).mono ?_
          rintro e w' ⟨rfl, rfl⟩
          simp only [d2]
          go_wp2
          go_ret
          exact ⟨ret_bool R.out.symm, Hbel.out⟩
        · have R := Lib.hid (rightB_no (fun h => b2 (HR.out.1 h).2))
          have d2 : decide (sumN (cs.extract 979 987).toList ≤ 144115188075855872) = false := decide_eq_false b2
          go_wp2_with fail
          refine (rsum_any _ _ _ _ _ _ HSb.out Hbu.out).mono ?_
          rintro e w' ⟨rfl, rfl⟩
          simp only [d1]
          go_wp2_with fail
          refine (rsum_any _ _ _ _ _ _ Hsl.out Hsu.out).mono ?_
          rintro e w' ⟨rfl, rfl⟩
          simp only [d2]
          go_wp2
          go_ret
          exact ⟨ret_bool R.out.symm, Hbel.out⟩
      · have R := Lib.hid (rightB_no (fun h => b1 (HR.out.1 h).1))
        have d1 : decide (sumN (L 722) ≤ 144115188075855872) = false := decide_eq_false b1
        go_wp2_with fail
        refine (rsum_any _ _ _ _ _ _ HSb.out Hbu.out).mono ?_
        rintro e w' ⟨rfl, rfl⟩
        simp only [d1]
        go_wp2
        go_ret
        exact ⟨ret_bool R.out.symm, Hbel.out⟩

/-- state.Right answers whether the state is right. -/
theorem rright_any (cs : Array Value) (L : Nat → List Value) (B : Nat) (w : World) (hB : B ≤ w.heap.size) (h : IsSt w B cs L) :
    Calls Try.prog 33 #[.agg cs] w fun e w' => e = .returned (.bool (rightB cs L)) ∧ Below w.heap.size w w' := by
  by_cases hh : cnt L 721 ≤ 65536 ∧ cnt L 722 = cnt L 721 ∧ cnt L 987 = cnt L 721 ∧ cnt L 988 = cnt L 721 ∧ cnt L 1092 = cnt L 721 ∧ cnt L 653 ≤ 1024 ∧ cnt L 719 ≤ 8 ∧ cN cs 33 < 1099511627776 ∧ cN cs 720 < 1099511627776 ∧ cN cs 43 ≤ cN cs 33
  · obtain ⟨f1, f2, f3, f4, f5, f6, f7, f8, f9, f10⟩ := hh
    exact rright_go cs L B w hB h f1 f2 f3 f4 f5 f6 f7 f8 f9 f10
  · rw [rightB_no fun r => hh ⟨r.vals, r.bals, r.prev, r.cur, r.scores, r.hist, r.votes, r.slot, r.deps, r.head⟩]
    exact rright_no cs L B w hB h hh

end Go.Proofs.Ytikbkcidalippaa
