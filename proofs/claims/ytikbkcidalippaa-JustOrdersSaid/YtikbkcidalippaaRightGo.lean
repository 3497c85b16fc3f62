/-
  state.Right, where its first tests pass: the walk over its loops.
-/
import Derived.Test.YtikbkcidalippaaRight
namespace Go.Proofs.Ytikbkcidalippaa
open Go.RowKit
attribute [local irreducible] Hid Blk
set_option maxRecDepth 100000

/-- The three checkpoints of a state, one behind the other. -/
def chk3 (cs : Array Value) : Array Value := cs.extract 993 (993 + 33) ++ cs.extract 1026 (1026 + 33) ++ cs.extract 1059 (1059 + 33)
theorem built_chk3' (cs : Array Value) (h : 1957 ≤ cs.size) : Try.prog.built 87 [(0, .agg (cs.extract 993 (993 + 33))), (1, .agg (cs.extract 1026 (1026 + 33))), (2, .agg (cs.extract 1059 (1059 + 33)))] = some (chk3 cs) :=
  built_chk3 _ _ _ (by simp; omega) (by simp; omega) (by simp; omega)
theorem size_chk3 {cs : Array Value} (h : 1957 ≤ cs.size) : (chk3 cs).size = 99 := by simp [chk3]; omega
theorem chk3_get {cs : Array Value} (h : 1957 ≤ cs.size) {j : Nat} (hj : j < 99) : (chk3 cs)[j]? = cs[993 + j]? := by
  have e1 : (cs.extract 993 (993 + 33)).size = 33 := by simp; omega
  have e2 : (cs.extract 1026 (1026 + 33)).size = 33 := by simp; omega
  simp only [chk3, Array.getElem?_append, Array.size_append, e1, e2]
  by_cases a1 : j < 33
  · rw [if_pos (by omega), if_pos a1, Array.getElem?_extract, if_pos (by omega)]
  · by_cases a2 : j < 66
    · rw [if_pos (by omega), if_neg a1, Array.getElem?_extract, if_pos (by omega)]; congr 1; omega
    · rw [if_neg (by omega), Array.getElem?_extract, if_pos (by omega)]; congr 1; omega
theorem chk3_part {cs : Array Value} (h : 1957 ≤ cs.size) {o : Nat} (ho : o + 33 ≤ 99) : ((chk3 cs).extract o (o + 33))[0]? = cs[993 + o]? := by
  rw [Array.getElem?_extract, if_pos (by rw [size_chk3 h]; omega), chk3_get h (by omega)]; rfl
theorem ones_chk3 {cs : Array Value} (h : cs.all (·.oneCell') = true) : (chk3 cs).all (·.oneCell') = true := by
  simp only [chk3, Array.all_append, ones_extract h, Bool.and_self]

/-- The four epochs of a validator. -/
def q4 (a b c d : Int) : Nat → Int
  | 0 => a
  | 1 => b
  | 2 => c
  | _ => d
theorem lit4 {a b c d : Int} {m : Nat} (h : m < 4) : (#[.int .u64 a, .int .u64 b, .int .u64 c, .int .u64 d] : Array Value)[((m : Nat) : Int).toNat]? = some (.int .u64 (q4 a b c d m)) := by
  obtain rfl | rfl | rfl | rfl : m = 0 ∨ m = 1 ∨ m = 2 ∨ m = 3 := by omega
  all_goals rfl
theorem q4_w {a b c d : Int} (ha : W64 a) (hb : W64 b) (hc : W64 c) (hd : W64 d) (m : Nat) : W64 (q4 a b c d m) := by
  unfold q4; split <;> assumption
/-- The number of an epoch that never comes, under a name. -/
def farN : Int := 18446744073709551615

/-- The epoch of each. -/
def ep (cs : Array Value) : Nat → Int
  | 0 => cN cs 993
  | 1 => cN cs 1026
  | _ => cN cs 1059

set_option maxHeartbeats 1000000 in
theorem right_go (cs : Array Value) (L : Nat → List Value) (B : Nat) (w : World) (hB : B ≤ w.heap.size) (h : IsSt w B cs L)
    (f1 : cnt L 721 ≤ 65536) (f2 : cnt L 722 = cnt L 721) (f3 : cnt L 987 = cnt L 721) (f4 : cnt L 988 = cnt L 721) (f5 : cnt L 1092 = cnt L 721) (f6 : cnt L 653 ≤ 1024) (f7 : cnt L 719 ≤ 8) (c33 : cN cs 33 < 1099511627776) (c720 : cN cs 720 < 1099511627776) (c43 : cN cs 43 ≤ cN cs 33) :
    Calls Try.prog 24 #[.agg cs] w fun e w' => e = .returned (.bool (rightB cs L)) ∧ Below w.heap.size w w' := by
  have F := Lib.hid (And.intro f1 (And.intro f2 (And.intro f3 (And.intro f4 (And.intro f5 (And.intro f6 (And.intro f7 (And.intro c33 (And.intro c720 c43)))))))))
  obtain ⟨ah, nh, ch, h653, sh⟩ := h.sl 653 (by decide)
  obtain ⟨ao, no, co, h719, so⟩ := h.sl 719 (by decide)
  obtain ⟨av, nv, cv, h721, sv⟩ := h.sl 721 (by decide)
  obtain ⟨ab, nb, cb, h722, sb⟩ := h.sl 722 (by decide)
  obtain ⟨ap, np, cp, h987, sp⟩ := h.sl 987 (by decide)
  obtain ⟨ac, nc, cc, h988, sc⟩ := h.sl 988 (by decide)
  obtain ⟨as_, ns, cs_, h1092, ss⟩ := h.sl 1092 (by decide)
  have q653 := Lib.hid (cnt_of sh); have q719 := Lib.hid (cnt_of so); have q721 := Lib.hid (cnt_of sv); have q722 := Lib.hid (cnt_of sb)
  have q987 := Lib.hid (cnt_of sp); have q988 := Lib.hid (cnt_of sc); have q1092 := Lib.hid (cnt_of ss)
  have bh := Nat.le_trans sh.le sh.max; have bo := Nat.le_trans so.le so.max; have bv := Nat.le_trans sv.le sv.max; have bb := Nat.le_trans sb.le sb.max
  have bp := Nat.le_trans sp.le sp.max; have bc := Nat.le_trans sc.le sc.max; have bs := Nat.le_trans ss.le ss.max
  obtain ⟨h33, w33⟩ := h.wf.u64 33 rfl
  obtain ⟨h720, w720⟩ := h.wf.u64 720 rfl
  obtain ⟨h43, w43⟩ := h.wf.u64 43 rfl
  obtain ⟨h993, w993⟩ := h.wf.u64 993 rfl
  obtain ⟨h1026, w1026⟩ := h.wf.u64 1026 rfl
  obtain ⟨h1059, w1059⟩ := h.wf.u64 1059 rfl
  have H := Lib.hid h
  have hsz1 : 1957 ≤ cs.size := Nat.le_of_eq h.wf.size.symm
  have hsz2 : cs.size ≤ 1957 := Nat.le_of_eq h.wf.size
  have Sv := Lib.hid sv; have Ss := Lib.hid ss; have Sb := Lib.hid sb
  clear h sh so sv sb sp sc ss
  obtain ⟨_, _⟩ := w33; obtain ⟨_, _⟩ := w720; obtain ⟨_, _⟩ := w43; obtain ⟨_, _⟩ := w993; obtain ⟨_, _⟩ := w1026; obtain ⟨_, _⟩ := w1059
  rw [q721.out] at f1 f2 f3 f4 f5
  rw [q722.out] at f2; rw [q987.out] at f3; rw [q988.out] at f4; rw [q1092.out] at f5; rw [q653.out] at f6; rw [q719.out] at f7
  obtain rfl := f2.symm; obtain rfl := f3.symm; obtain rfl := f4.symm; obtain rfl := f5.symm
  clear f2 f3 f4 f5
  have c1 : ¬ 65536 < nv := by omega
  have c2 : ¬ 1024 < nh := by omega
  have c3 : ¬ 8 < no := by omega
  clear f1 f6 f7
  have d1 : decide (65536 < (nv : Int)) = false := decide_eq_false (by omega)
  have d2 : decide (1024 < (nh : Int)) = false := decide_eq_false (by omega)
  have d3 : decide (8 < (no : Int)) = false := decide_eq_false (by omega)
  have KE : Hid (∀ k : Nat, k < 3 → ((chk3 cs).extract (k * 33) (k * 33 + 33))[0]? = some (.int .u64 (ep cs k))) := Lib.hid (by
    intro k hk
    rw [chk3_part hsz1 (o := k * 33) (by omega)]
    obtain rfl | rfl | rfl : k = 0 ∨ k = 1 ∨ k = 2 := by omega
    · exact h993
    · exact h1026
    · exact h1059)
  have hs3 := size_chk3 hsz1
  have HO := Lib.hid (ones_chk3 H.out.wf.ones)
  have HBC := Lib.hid (built_chk3' cs hsz1)
  have hs4 : 99 ≤ (chk3 cs).size := Nat.le_of_eq hs3.symm
  have hs5 : (chk3 cs).size ≤ 99 := Nat.le_of_eq hs3
  clear hs3
  generalize chk3 cs = A at *
  go_enter Try.func24, Try.ntmps24
  go_wp2_with (first | ((with_reducible apply l_load 42); (focus rfl); (focus (repeat (first | assumption | (apply Blk.newAt; (focus (simp; done))) | apply Blk.alloc | apply Blk.setRow | apply Blk.drewN | apply Blk.drew | (refine Blk.setRow_other ?_ ?_ _; focus (first | omega | (simp; omega)))))); (focus exact Try.underlying42); (focus rfl); (focus exact szCheck); (focus (first | omega | (simp; done) | (simp; omega) | assumption)); (try go_frame)) | ((with_reducible apply l_build 87); (focus rfl); (focus exact HBC.out); (try go_frame)))
  go_loopw [84] (fun i wr => ∃ k : Nat, k ≤ 3 ∧ i = .int .i64 k ∧ Below w.heap.size w wr ∧ Blk wr w.heap.size 49 cs ∧ Hid (∀ j, j < k → ep cs j ≤ cN cs 33 / 4)) (fun i _ => 3 - (intOf i).toNat)
  case atStart => exact ⟨0, by omega, rfl, (by (repeat (first | exact Below.refl _ _ | apply Below.drew | apply below_drewN | (refine Below.alloc ?_ ?_ _) | (refine below_setRow ?_ ?_ _) | (refine Below.setCell ?_ ?_ _) | (refine Below.trans ?_ (Below.mono (by assumption) ?_)) | omega | (focus (simp; done)) | (focus (simp; omega))))), (by (repeat (first | assumption | (apply Blk.newAt; (focus (simp; done))) | apply Blk.alloc | apply Blk.setRow | apply Blk.drewN | apply Blk.drew | (refine Blk.setRow_other ?_ ?_ _; focus (first | omega | (simp; omega)))))), Lib.hid (fun j hj => absurd hj (by omega))⟩
  case round =>
    obtain ⟨k, hk, rfl, hbel, hblk, hr⟩ := hrel
    by_cases hlt : k < 3
    · have hke := KE.out k hlt
      have hsz : (A.extract (k * 33) (k * 33 + 33)).size = 33 := by simp; omega
      have Hsz := Lib.hid hsz
      have Hso : Hid ((A.extract (k * 33) (k * 33 + 33)).all (·.oneCell') = true) := Lib.hid (ones_extract HO.out _ _)
      clear hsz
      generalize hV : A.extract (k * 33) (k * 33 + 33) = V at *
      have HV := Lib.hid hV
      clear hV
      have hbs := hbel.size
      have hbc := hblk.lt
      by_cases hgt : cN cs 33 / 4 < ep cs k
      · have R := Lib.hid (rightB_no (cs := cs) (L := L) fun h => by
          obtain rfl | rfl | rfl : k = 0 ∨ k = 1 ∨ k = 2 := by omega
          · have := h.old; simp only [ep] at hgt; omega
          · have := h.just; simp only [ep] at hgt; omega
          · have := h.fin; simp only [ep] at hgt; omega)
        go_wp2_with (first | ((with_reducible apply l_index 87); (focus rfl); (focus rfl); (focus exact Try.underlying87); (focus exact Try.underlying42); (focus rfl); (focus exact szCheck); (focus (first | omega | (simp; omega) | decide)); (try go_frame)) | (((with_reducible apply l_alloc 42); (focus kernel_rfl); (try go_frame)); simp only [Int.toNat_natCast, HV.out]) | ((with_reducible apply l_storew 42); (focus rfl); (focus rfl); (focus (repeat (first | assumption | (apply Blk.newAt; (focus (simp; done))) | apply Blk.alloc | apply Blk.setRow | apply Blk.drewN | apply Blk.drew | (refine Blk.setRow_other ?_ ?_ _; focus (first | omega | (simp; omega)))))); (focus exact szCheck); (focus (first | exact Hsz.out | (first | omega | (simp; done) | (simp; omega) | assumption))); (focus (first | omega | (simp; done) | (simp; omega) | assumption)); (focus exact Hso.out); (focus (repeat (first | (apply setRow_eq_at; (focus (simp; done))) | (refine setRow_eq_past ?_ ?_; (focus (first | (simp; done) | omega | (simp; omega)))) | apply setRow_eq_drewN | apply setRow_eq_drew | rfl))); (try go_frame)))
        go_ret
        exact ⟨ret_bool R.out.symm, (by (repeat (first | exact Below.refl _ _ | apply Below.drew | apply below_drewN | (refine Below.alloc ?_ ?_ _) | (refine below_setRow ?_ ?_ _) | (refine Below.setCell ?_ ?_ _) | (refine Below.trans ?_ (Below.mono (by assumption) ?_)) | omega | (focus (simp; done)) | (focus (simp; omega)))))⟩
      · have hrs : Hid (∀ j, j < k + 1 → ep cs j ≤ cN cs 33 / 4) := Lib.hid (by
          intro j hj
          rcases Nat.lt_or_ge j k with h1 | h1
          · exact hr.out j h1
          · obtain rfl : j = k := by omega
            omega)
        clear hr
        go_wp2_with (first | ((with_reducible apply l_index 87); (focus rfl); (focus rfl); (focus exact Try.underlying87); (focus exact Try.underlying42); (focus rfl); (focus exact szCheck); (focus (first | omega | (simp; omega) | decide)); (try go_frame)) | (((with_reducible apply l_alloc 42); (focus kernel_rfl); (try go_frame)); simp only [Int.toNat_natCast, HV.out]) | ((with_reducible apply l_storew 42); (focus rfl); (focus rfl); (focus (repeat (first | assumption | (apply Blk.newAt; (focus (simp; done))) | apply Blk.alloc | apply Blk.setRow | apply Blk.drewN | apply Blk.drew | (refine Blk.setRow_other ?_ ?_ _; focus (first | omega | (simp; omega)))))); (focus exact szCheck); (focus (first | exact Hsz.out | (first | omega | (simp; done) | (simp; omega) | assumption))); (focus (first | omega | (simp; done) | (simp; omega) | assumption)); (focus exact Hso.out); (focus (repeat (first | (apply setRow_eq_at; (focus (simp; done))) | (refine setRow_eq_past ?_ ?_; (focus (first | (simp; done) | omega | (simp; omega)))) | apply setRow_eq_drewN | apply setRow_eq_drew | rfl))); (try go_frame)))
        go_roundw
        case rel => exact ⟨k + 1, by omega, by go_num, (by (repeat (first | exact Below.refl _ _ | apply Below.drew | apply below_drewN | (refine Below.alloc ?_ ?_ _) | (refine below_setRow ?_ ?_ _) | (refine Below.setCell ?_ ?_ _) | (refine Below.trans ?_ (Below.mono (by assumption) ?_)) | omega | (focus (simp; done)) | (focus (simp; omega))))), (by (repeat (first | assumption | (apply Blk.newAt; (focus (simp; done))) | apply Blk.alloc | apply Blk.setRow | apply Blk.drewN | apply Blk.drew | (refine Blk.setRow_other ?_ ?_ _; focus (first | omega | (simp; omega)))))), hrs⟩
        case measure => simp [intOf]; omega
    · obtain rfl : k = 3 := by omega
      clear hlt hk KE HO hs4 hs5
      have hcell := hblk.cell
      go_wp2
      clear hcell
      go_loopw [95] (fun i wr => ∃ k : Nat, k ≤ nv ∧ i = .int .i64 k ∧ Below w.heap.size w wr ∧ Blk wr w.heap.size 49 cs ∧ Hid (∀ j, j < k → ValOK (L 721) j)) (fun i _ => nv - (intOf i).toNat)
      case atStart => exact ⟨0, by omega, rfl, hbel, hblk, Lib.hid (fun j hj => absurd hj (by omega))⟩
      case round =>
        clear hbel hblk
        obtain ⟨k, hk, rfl, hbel, hblk, hv⟩ := hrel
        have hbs := hbel.size
        have hbc := hblk.lt
        have hcell := hblk.cell
        by_cases hlt : k < nv
        · have hSv : SlR wr B 86 128 av nv cv (L 721) := Sv.out.below (hbel.mono hB)
          obtain ⟨b, o, rfl, hbB, hrng, hlen⟩ := hSv.range hlt
          have hL : (L 721).length = nv * 86 := hSv.len
          have g0 : ∀ j, j < 86 → (((L 721).drop (k * 86)).take 86)[j]? = (L 721)[86 * k + j]? := fun j hj => by
            rw [List.getElem?_take, if_pos hj, List.getElem?_drop]; congr 1; omega
          have e : ∀ j, 80 ≤ j → j < 86 → j ≠ 81 → (((L 721).drop (k * 86)).take 86)[j]? = some (.int .u64 (lN (L 721) (86 * k + j))) ∧ W64 (lN (L 721) (86 * k + j)) := fun j h1 h2 h3 => by
            rw [g0 j h2]
            refine H.out.eN 721 _ (by decide) ?_ (by omega)
            have hm : (86 * k + j) % 86 = j := by omega
            unfold ek
            rw [if_neg (by decide), if_neg (by decide), if_pos rfl, hm, if_neg (by omega), if_neg h3]
          have ho1 : (((L 721).drop (k * 86)).take 86).toArray.all (·.oneCell') = true := all_oneCell_toArray fun v hv => by
            obtain ⟨j, hj, rfl⟩ := List.mem_iff_getElem.1 hv
            have hj2 : j < 86 := by rw [hlen] at hj; exact hj
            have := g0 j hj2
            rw [List.getElem?_eq_getElem hj] at this
            exact CK.ok_one (H.out.el 721 (by decide) _ _ this.symm)
          obtain ⟨e80, w80⟩ := e 80 (by omega) (by omega) (by omega)
          obtain ⟨e82, w82⟩ := e 82 (by omega) (by omega) (by omega)
          obtain ⟨e83, w83⟩ := e 83 (by omega) (by omega) (by omega)
          obtain ⟨e84, w84⟩ := e 84 (by omega) (by omega) (by omega)
          obtain ⟨e85, w85⟩ := e 85 (by omega) (by omega) (by omega)
          have HVN : Hid (∀ P : Prop, (ValOK (L 721) k → P) → (lN (L 721) (86 * k + 80) ≤ 32000000000 ∧ lN (L 721) (86 * k + 80) % 1000000000 = 0 ∧ EpOK (lN (L 721) (86 * k + 82)) ∧ EpOK (lN (L 721) (86 * k + 83)) ∧ EpOK (lN (L 721) (86 * k + 84)) ∧ EpOK (lN (L 721) (86 * k + 85)) → P)) := Lib.hid fun P h h' => h h'
          have HVR : Hid (∀ h : RightP cs L, lN (L 721) (86 * k + 80) ≤ 32000000000 ∧ lN (L 721) (86 * k + 80) % 1000000000 = 0 ∧ EpOK (lN (L 721) (86 * k + 82)) ∧ EpOK (lN (L 721) (86 * k + 83)) ∧ EpOK (lN (L 721) (86 * k + 84)) ∧ EpOK (lN (L 721) (86 * k + 85))) := Lib.hid fun h => h.val k (by rw [q721.out]; exact hlt)
          have Ho1 := Lib.hid ho1
          have Hrng := Lib.hid hrng
          have Hlen := Lib.hid hlen
          clear g0 e ho1 hrng hlen hL hSv
          generalize ((L 721).drop (k * 86)).take 86 = V at *
          generalize lN (L 721) (86 * k + 80) = x80 at *
          generalize lN (L 721) (86 * k + 82) = x82 at *
          generalize lN (L 721) (86 * k + 83) = x83 at *
          generalize lN (L 721) (86 * k + 84) = x84 at *
          generalize lN (L 721) (86 * k + 85) = x85 at *
          obtain ⟨_, _⟩ := w80; obtain ⟨_, _⟩ := w82; obtain ⟨_, _⟩ := w83; obtain ⟨_, _⟩ := w84; obtain ⟨_, _⟩ := w85
          by_cases v1 : 32000000000 < x80
          · have R := Lib.hid (rightB_no (cs := cs) (L := L) fun h => by have := (HVR.out h).1; omega)
            go_wp2_with (first | ((with_reducible apply l_loadr 82); (focus rfl); (focus (repeat (first | exact Hrng.out | assumption | apply World.rangeAt_alloc))); (focus exact Try.underlying82); (focus rfl); (focus exact szVal); (focus exact Hlen.out); (try go_frame)) | ((with_reducible apply l_alloc 82); (focus kernel_rfl); (try go_frame)) | ((with_reducible apply l_storew 82); (focus rfl); (focus rfl); (focus (repeat (first | assumption | (apply Blk.newAt; (focus (simp; done))) | apply Blk.alloc | apply Blk.setRow | apply Blk.drewN | apply Blk.drew | (refine Blk.setRow_other ?_ ?_ _; focus (first | omega | (simp; omega)))))); (focus exact szVal); (focus (first | exact (by simpa using Hlen.out) | (first | omega | (simp; done) | (simp; omega) | assumption))); (focus (first | omega | (simp; done) | (simp; omega) | assumption)); (focus exact Ho1.out); (focus (repeat (first | (apply setRow_eq_at; (focus (simp; done))) | (refine setRow_eq_past ?_ ?_; (focus (first | (simp; done) | omega | (simp; omega)))) | apply setRow_eq_drewN | apply setRow_eq_drew | rfl))); (try go_frame)))
            go_ret
            exact ⟨ret_bool R.out.symm, (by (repeat (first | exact Below.refl _ _ | apply Below.drew | apply below_drewN | (refine Below.alloc ?_ ?_ _) | (refine below_setRow ?_ ?_ _) | (refine Below.setCell ?_ ?_ _) | (refine Below.trans ?_ (Below.mono (by assumption) ?_)) | omega | (focus (simp; done)) | (focus (simp; omega)))))⟩
          by_cases v2 : x80 % 1000000000 = 0
          case neg =>
            have R := Lib.hid (rightB_no (cs := cs) (L := L) fun h => by have := (HVR.out h).2.1; omega)
            have v3 : (x80 % 1000000000 == 0) = false := by rw [beq_eq_false_iff_ne]; exact v2
            clear v2
            go_wp2_with (first | ((with_reducible apply l_loadr 82); (focus rfl); (focus (repeat (first | exact Hrng.out | assumption | apply World.rangeAt_alloc))); (focus exact Try.underlying82); (focus rfl); (focus exact szVal); (focus exact Hlen.out); (try go_frame)) | ((with_reducible apply l_alloc 82); (focus kernel_rfl); (try go_frame)) | ((with_reducible apply l_storew 82); (focus rfl); (focus rfl); (focus (repeat (first | assumption | (apply Blk.newAt; (focus (simp; done))) | apply Blk.alloc | apply Blk.setRow | apply Blk.drewN | apply Blk.drew | (refine Blk.setRow_other ?_ ?_ _; focus (first | omega | (simp; omega)))))); (focus exact szVal); (focus (first | exact (by simpa using Hlen.out) | (first | omega | (simp; done) | (simp; omega) | assumption))); (focus (first | omega | (simp; done) | (simp; omega) | assumption)); (focus exact Ho1.out); (focus (repeat (first | (apply setRow_eq_at; (focus (simp; done))) | (refine setRow_eq_past ?_ ?_; (focus (first | (simp; done) | omega | (simp; omega)))) | apply setRow_eq_drewN | apply setRow_eq_drew | rfl))); (try go_frame)))
            go_ret
            exact ⟨ret_bool R.out.symm, (by (repeat (first | exact Below.refl _ _ | apply Below.drew | apply below_drewN | (refine Below.alloc ?_ ?_ _) | (refine below_setRow ?_ ?_ _) | (refine Below.setCell ?_ ?_ _) | (refine Below.trans ?_ (Below.mono (by assumption) ?_)) | omega | (focus (simp; done)) | (focus (simp; omega)))))⟩
          have v3 : (x80 % 1000000000 == 0) = true := by rw [beq_iff_eq]; exact v2
          have v4 : decide (32000000000 < x80) = false := decide_eq_false v1
          have HV2 := Lib.hid v2
          clear v2
          go_wp2_with (first | ((with_reducible apply l_loadr 82); (focus rfl); (focus (repeat (first | exact Hrng.out | assumption | apply World.rangeAt_alloc))); (focus exact Try.underlying82); (focus rfl); (focus exact szVal); (focus exact Hlen.out); (try go_frame)) | ((with_reducible apply l_alloc 82); (focus kernel_rfl); (try go_frame)) | ((with_reducible apply l_storew 82); (focus rfl); (focus rfl); (focus (repeat (first | assumption | (apply Blk.newAt; (focus (simp; done))) | apply Blk.alloc | apply Blk.setRow | apply Blk.drewN | apply Blk.drew | (refine Blk.setRow_other ?_ ?_ _; focus (first | omega | (simp; omega)))))); (focus exact szVal); (focus (first | exact (by simpa using Hlen.out) | (first | omega | (simp; done) | (simp; omega) | assumption))); (focus (first | omega | (simp; done) | (simp; omega) | assumption)); (focus exact Ho1.out); (focus (repeat (first | (apply setRow_eq_at; (focus (simp; done))) | (refine setRow_eq_past ?_ ?_; (focus (first | (simp; done) | omega | (simp; omega)))) | apply setRow_eq_drewN | apply setRow_eq_drew | rfl))); (try go_frame)))
          have HQ := Lib.hid (q4_w (a := x82) (b := x83) (c := x84) (d := x85) ⟨by assumption, by assumption⟩ ⟨by assumption, by assumption⟩ ⟨by assumption, by assumption⟩ ⟨by assumption, by assumption⟩)
          obtain ⟨wo, hwo⟩ : ∃ wo : World, wo = wr.alloc (.cells V.toArray 82) := ⟨_, rfl⟩
          have hbel2 : Hid (Below w.heap.size w wo) := Lib.hid (by rw [hwo]; exact (by (repeat (first | exact Below.refl _ _ | apply Below.drew | apply below_drewN | (refine Below.alloc ?_ ?_ _) | (refine below_setRow ?_ ?_ _) | (refine Below.setCell ?_ ?_ _) | (refine Below.trans ?_ (Below.mono (by assumption) ?_)) | omega | (focus (simp; done)) | (focus (simp; omega))))))
          have hblk2 : Hid (Blk wo w.heap.size 49 cs) := Lib.hid (by rw [hwo]; exact (by (repeat (first | assumption | (apply Blk.newAt; (focus (simp; done))) | apply Blk.alloc | apply Blk.setRow | apply Blk.drewN | apply Blk.drew | (refine Blk.setRow_other ?_ ?_ _; focus (first | omega | (simp; omega)))))))
          rw [← hwo]
          clear hwo hbel hblk hcell
          go_loop [117] (fun i => ∃ m : Nat, m ≤ 4 ∧ i = .int .i64 m ∧ Hid (∀ j, j < m → EpOK (q4 x82 x83 x84 x85 j))) (fun i => 4 - (intOf i).toNat)
          case atStart => exact ⟨0, by omega, rfl, Lib.hid (fun j hj => absurd hj (by omega))⟩
          case round =>
            obtain ⟨m, hm, rfl, hq⟩ := hrel
            by_cases hm4 : m < 4
            · have hl4 := Lib.hid (lit4 (a := x82) (b := x83) (c := x84) (d := x85) hm4)
              have hnx : Hid (EpOK (q4 x82 x83 x84 x85 m) → ∀ j, j < m + 1 → EpOK (q4 x82 x83 x84 x85 j)) := Lib.hid (fun h j hj => by
                rcases Nat.lt_or_ge j m with h1 | h1
                · exact hq.out j h1
                · obtain rfl : j = m := by omega
                  exact h)
              have hnr : Hid (RightP cs L → EpOK (q4 x82 x83 x84 x85 m)) := Lib.hid (fun h => by
                obtain ⟨_, _, r2, r3, r4, r5⟩ := HVR.out h
                obtain rfl | rfl | rfl | rfl : m = 0 ∨ m = 1 ∨ m = 2 ∨ m = 3 := by omega
                · exact r2
                · exact r3
                · exact r4
                · exact r5)
              obtain ⟨hy0, hy1⟩ := HQ.out m
              generalize q4 x82 x83 x84 x85 m = y at *
              clear hq
              by_cases y1 : y = 18446744073709551615
              · have y2 : (y != 18446744073709551615) = false := by rw [y1]; rfl
                have hok := Lib.hid (hnx.out (Or.inl y1))
                clear y1 hnx hnr
                go_wp2_with (first | ((with_reducible apply l_index1 88); (focus rfl); (focus rfl); (focus exact Try.underlying88); (focus exact Try.underlying22); (focus rfl); (focus kernel_rfl); (focus (first | omega | (simp; omega) | decide)); (focus exact hl4.out); (try go_frame)))
                go_round
                case rel => exact ⟨m + 1, by omega, by go_num, hok⟩
                case measure => simp [intOf]; omega
              · have y2 : (y != 18446744073709551615) = true := by rw [bne_iff_ne]; exact y1
                by_cases y3 : y < 2199023255552
                · have hok := Lib.hid (hnx.out (Or.inr y3))
                  clear y1 hnx hnr
                  go_wp2_with (first | ((with_reducible apply l_index1 88); (focus rfl); (focus rfl); (focus exact Try.underlying88); (focus exact Try.underlying22); (focus rfl); (focus kernel_rfl); (focus (first | omega | (simp; omega) | decide)); (focus exact hl4.out); (try go_frame)))
                  go_round
                  case rel => exact ⟨m + 1, by omega, by go_num, hok⟩
                  case measure => simp [intOf]; omega
                · have R := Lib.hid (rightB_no (cs := cs) (L := L) fun h => by rcases hnr.out h with h | h <;> omega)
                  clear y1 hnx hnr
                  go_wp2_with (first | ((with_reducible apply l_index1 88); (focus rfl); (focus rfl); (focus exact Try.underlying88); (focus exact Try.underlying22); (focus rfl); (focus kernel_rfl); (focus (first | omega | (simp; omega) | decide)); (focus exact hl4.out); (try go_frame)))
                  go_ret
                  exact ⟨ret_bool R.out.symm, hbel2.out⟩
            · obtain rfl : m = 4 := by omega
              have hok : Hid (∀ j, j < k + 1 → ValOK (L 721) j) := Lib.hid (fun j hj => by
                rcases Nat.lt_or_ge j k with h1 | h1
                · exact hv.out j h1
                · obtain rfl : j = k := by omega
                  exact HVN.out _ (fun h => h) ⟨by omega, HV2.out, hq.out 0 (by omega), hq.out 1 (by omega), hq.out 2 (by omega), hq.out 3 (by omega)⟩)
              clear hv hq
              go_wp2
              go_roundw
              case rel => exact ⟨_, _, _, .int .i64 ((k + 1 : Nat) : Int), ⟨k + 1, by omega, rfl, hbel2.out, hblk2.out, hok⟩, rfl, rfl, rfl, by go_num⟩
              case measure => simp [intOf]; omega
        · obtain rfl : k = nv := by omega
          clear hlt hk
          go_wp2
          have hSs : SlR wr B 1 8 as_ k cs_ (L 1092) := Ss.out.below (hbel.mono hB)
          have hlen : (L 1092).length = k := by simpa using hSs.len
          have HLn := Lib.hid hlen
          have HSs := Lib.hid hSs
          clear hSs hlen
          obtain ⟨wo, rfl⟩ : ∃ wo : World, wo = wr := ⟨_, rfl⟩
          go_loop [131] (fun i => ∃ m : Nat, m ≤ k ∧ i = .int .i64 m ∧ Hid (∀ j, j < m → lN (L 1092) j ≤ 1099511627776)) (fun i => k - (intOf i).toNat)
          case atStart => exact ⟨0, by omega, rfl, Lib.hid (fun j hj => absurd hj (by omega))⟩
          case round =>
            obtain ⟨m, hm, rfl, hq⟩ := hrel
            by_cases hmk : m < k
            · obtain ⟨b, o, rfl, _, hcc⟩ := HSs.out.cells (by omega)
              obtain ⟨e1, hy⟩ := H.out.eN 1092 m (by decide) (by simp [ek]) (by rw [HLn.out]; exact hmk)
              have hcl := hcc m _ e1
              obtain ⟨hy0, hy1⟩ := hy
              have hnr : Hid (RightP cs L → lN (L 1092) m ≤ 1099511627776) := Lib.hid (fun h => h.score m (by rw [q721.out]; exact hmk))
              have hnx : Hid (lN (L 1092) m ≤ 1099511627776 → ∀ j, j < m + 1 → lN (L 1092) j ≤ 1099511627776) := Lib.hid (fun h j hj => by
                rcases Nat.lt_or_ge j m with h1 | h1
                · exact hq.out j h1
                · obtain rfl : j = m := by omega
                  exact h)
              clear e1 hcc hq
              generalize lN (L 1092) m = y at *
              by_cases y1 : 1099511627776 < y
              · have R := Lib.hid (rightB_no (cs := cs) (L := L) fun h => by have := hnr.out h; omega)
                clear hnr hnx
                go_wp2
                go_ret
                exact ⟨ret_bool R.out.symm, hbel⟩
              · have hok := Lib.hid (hnx.out (by omega))
                clear hnr hnx
                go_wp2
                go_round
                case rel => exact ⟨m + 1, by omega, by go_num, hok⟩
                case measure => simp [intOf]; omega
            · obtain rfl : m = k := by omega
              have hSb : SlR wo B 1 8 ab m cb (L 722) := Sb.out.below (hbel.mono hB)
              have HSb := Lib.hid hSb
              have Hbel := Lib.hid hbel
              have hsl : SlR wo (w.heap.size + 1) 1 8 (some ⟨w.heap.size, 979, none⟩) 8 8 (cs.extract 979 987).toList := ⟨by simp; omega, by omega, by omega, by omega, fun h => by (cases h), fun _ => ⟨_, _, rfl, by omega, fun j u hu => by
                rw [hblk.cell, ← hu]
                have hj : j < 8 := by
                  have := (List.getElem?_eq_some_iff.1 hu).1
                  simp at this; omega
                simp only [Array.getElem?_toList, Array.getElem?_extract]
                rw [if_pos (by omega)]⟩⟩
              have hsu : ∀ (j : Nat) u, (cs.extract 979 987).toList[j]? = some u → CK.u64.ok u := fun j u hu => by
                have hj : j < 8 := by
                  have := (List.getElem?_eq_some_iff.1 hu).1
                  simp at this; omega
                simp only [Array.getElem?_toList, Array.getElem?_extract] at hu
                rw [if_pos (by omega)] at hu
                have := H.out.wf.kind _ _ hu
                have hck : ck (979 + j) = .u64 := by
                  unfold ck
                  rw [if_neg (by omega), if_neg (by omega), if_pos (by omega)]
                rw [hck] at this; exact this
              have Hsl := Lib.hid hsl
              have Hsu := Lib.hid hsu
              have Hbu : Hid (∀ (j : Nat) u, (L 722)[j]? = some u → CK.u64.ok u) := Lib.hid (fun j u hu => by
                have := H.out.el 722 (by decide) j u hu
                simpa [ek] using this)
              have HR : Hid (RightP cs L ↔ sumN (L 722) ≤ 144115188075855872 ∧ sumN (cs.extract 979 987).toList ≤ 144115188075855872) := Lib.hid ⟨fun h => ⟨h.few, h.slash⟩, fun h => by
                obtain ⟨g1, g2, g3, g4, g5, g6, g7, g8, g9, g10⟩ := F.out
                exact ⟨g1, g2, g3, g4, g5, g6, g7, g8, g9, g10, by have := hr.out 0 (by omega); simpa [ep] using this, by have := hr.out 1 (by omega); simpa [ep] using this, by have := hr.out 2 (by omega); simpa [ep] using this,
                  fun i hi => hv.out i (by rw [q721.out] at hi; exact hi), fun i hi => hq.out i (by rw [q721.out] at hi; exact hi), h.1, h.2⟩⟩
              have hfr := hblk.frozen
              clear hsl hsu hSb hbel hq hr hv
              by_cases b1 : sumN (L 722) ≤ 144115188075855872
              · have d1 : decide (sumN (L 722) ≤ 144115188075855872) = true := decide_eq_true b1
                by_cases b2 : sumN (cs.extract 979 987).toList ≤ 144115188075855872
                · have R := Lib.hid (rightB_yes (HR.out.2 ⟨b1, b2⟩))
                  have d2 : decide (sumN (cs.extract 979 987).toList ≤ 144115188075855872) = true := decide_eq_true b2
                  go_wp2_with fail
                  refine (few_any _ _ _ _ _ _ HSb.out Hbu.out).mono ?_
                  rintro e w' ⟨rfl, rfl⟩
                  simp only [d1]
                  go_wp2_with fail
                  refine (few_any _ _ _ _ _ _ Hsl.out Hsu.out).mono ?_
                  rintro e w' ⟨rfl, rfl⟩
                  simp only [d2]
                  go_wp2
                  go_ret
                  exact ⟨ret_bool R.out.symm, Hbel.out⟩
                · have R := Lib.hid (rightB_no (fun h => b2 (HR.out.1 h).2))
                  have d2 : decide (sumN (cs.extract 979 987).toList ≤ 144115188075855872) = false := decide_eq_false b2
                  go_wp2_with fail
                  refine (few_any _ _ _ _ _ _ HSb.out Hbu.out).mono ?_
                  rintro e w' ⟨rfl, rfl⟩
                  simp only [d1]
                  go_wp2_with fail
                  refine (few_any _ _ _ _ _ _ Hsl.out Hsu.out).mono ?_
                  rintro e w' ⟨rfl, rfl⟩
                  simp only [d2]
                  go_wp2
                  go_ret
                  exact ⟨ret_bool R.out.symm, Hbel.out⟩
              · have R := Lib.hid (rightB_no (fun h => b1 (HR.out.1 h).1))
                have d1 : decide (sumN (L 722) ≤ 144115188075855872) = false := decide_eq_false b1
                go_wp2_with fail
                refine (few_any _ _ _ _ _ _ HSb.out Hbu.out).mono ?_
                rintro e w' ⟨rfl, rfl⟩
                simp only [d1]
                go_wp2
                go_ret
                exact ⟨ret_bool R.out.symm, Hbel.out⟩

/-- state.Right answers whether the state is right. -/
theorem right_any (cs : Array Value) (L : Nat → List Value) (B : Nat) (w : World) (hB : B ≤ w.heap.size) (h : IsSt w B cs L) :
    Calls Try.prog 24 #[.agg cs] w fun e w' => e = .returned (.bool (rightB cs L)) ∧ Below w.heap.size w w' := by
  by_cases hh : cnt L 721 ≤ 65536 ∧ cnt L 722 = cnt L 721 ∧ cnt L 987 = cnt L 721 ∧ cnt L 988 = cnt L 721 ∧ cnt L 1092 = cnt L 721 ∧ cnt L 653 ≤ 1024 ∧ cnt L 719 ≤ 8 ∧ cN cs 33 < 1099511627776 ∧ cN cs 720 < 1099511627776 ∧ cN cs 43 ≤ cN cs 33
  · obtain ⟨f1, f2, f3, f4, f5, f6, f7, f8, f9, f10⟩ := hh
    exact right_go cs L B w hB h f1 f2 f3 f4 f5 f6 f7 f8 f9 f10
  · rw [rightB_no fun r => hh ⟨r.vals, r.bals, r.prev, r.cur, r.scores, r.hist, r.votes, r.slot, r.deps, r.head⟩]
    exact right_no cs L B w hB h hh

end Go.Proofs.Ytikbkcidalippaa
