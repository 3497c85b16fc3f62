/-
  look.Actives; pharosref19.Has: their contracts, walked.
-/
import Derived.Test.YtikbkcidalippaaFlagLaw
import Derived.Deep.DeepCutAuto
namespace Go.Proofs.Ytikbkcidalippaa
open Go.RowKit
attribute [local irreducible] Hid Blk
set_option maxRecDepth 100000

theorem bits_and1 {y : Int} (h0 : 0 ≤ y) (h1 : y < 256) : bits BinOp.and IntKind.u8 y 1 = y % 2 := by
  have h : ∀ n : Fin 256, bits BinOp.and IntKind.u8 ((n.val : Nat) : Int) 1 = ((n.val : Nat) : Int) % 2 := by decide +kernel
  obtain ⟨n, rfl⟩ := Int.eq_ofNat_of_zero_le h0
  exact h ⟨n, by omega⟩
/-- The test of a flag's bit, both ways. -/
theorem bit_eq {x y : Int} {f : Nat} (h : W8 x) (hy : y = x / 2 ^ f) : (bits BinOp.and IntKind.u8 y 1 == 1) = bitB x f := by
  have h0 : 0 ≤ y := by rw [hy]; exact Int.ediv_nonneg h.1 (Int.le_of_lt (Int.pow_pos (by decide)))
  have h1 : y ≤ x := by rw [hy]; exact Int.ediv_le_self _ h.1
  rw [bits_and1 h0 (by have := h.2; omega), hy]
  unfold bitB
  rw [Bool.eq_iff_iff]; simp
theorem bit_ne {x y : Int} {f : Nat} (h : W8 x) (hy : y = x / 2 ^ f) : (bits BinOp.and IntKind.u8 y 1 != 0) = bitB x f := by
  have h0 : 0 ≤ y := by rw [hy]; exact Int.ediv_nonneg h.1 (Int.le_of_lt (Int.pow_pos (by decide)))
  have h1 : y ≤ x := by rw [hy]; exact Int.ediv_le_self _ h.1
  rw [bits_and1 h0 (by have := h.2; omega), hy]
  unfold bitB
  rw [Bool.eq_iff_iff]; simp only [bne_iff_ne, ne_eq, decide_eq_true_eq]; omega
set_option maxHeartbeats 400000 in
theorem has_any (x : Int) (h : W8 x) (f : Nat) (hf : f < 3) (w : World) : Calls Try.prog 35 #[.int .u8 x, .int .i64 f] w fun e w' => e = .returned (.bool (bitB x f)) ∧ w = w' := by
  have HW := Lib.hid h
  obtain ⟨_, _⟩ := h
  obtain rfl | rfl | rfl : f = 0 ∨ f = 1 ∨ f = 2 := by omega
  · go_enter Try.func35, Try.ntmps35
    go_wp2
    go_ret
    exact ⟨ret_bool (bit_eq HW.out (by omega)), rfl⟩
  · go_enter Try.func35, Try.ntmps35
    go_wp2
    go_ret
    exact ⟨ret_bool (bit_eq HW.out (by omega)), rfl⟩
  · go_enter Try.func35, Try.ntmps35
    go_wp2
    go_ret
    exact ⟨ret_bool (bit_eq HW.out (by omega)), rfl⟩

/-- What a walk over the registry is told of the validator k. -/
theorem val_of {w : World} {B : Nat} {cs : Array Value} {L : Nat → List Value} (h : IsSt w B cs L) {k : Nat} (hk : k < cnt L 721) :
    (L 721)[86 * k + 83]? = some (.int .u64 (lN (L 721) (86 * k + 83))) ∧ (L 721)[86 * k + 84]? = some (.int .u64 (lN (L 721) (86 * k + 84))) ∧ (L 721)[86 * k + 81]? = some (.bool (lB (L 721) (86 * k + 81))) ∧ (L 721)[86 * k + 80]? = some (.int .u64 (lN (L 721) (86 * k + 80))) ∧
    W64 (lN (L 721) (86 * k + 83)) ∧ W64 (lN (L 721) (86 * k + 84)) ∧ W64 (lN (L 721) (86 * k + 80)) := by
  obtain ⟨a, n, c, e, s⟩ := h.sl 721 (by decide)
  have hl : (L 721).length = n * 86 := s.len
  have hc : cnt L 721 = n := by unfold cnt; rw [hl]; exact Nat.mul_div_cancel _ (by decide)
  rw [hc] at hk
  have e : ∀ j, 80 ≤ j → j < 86 → j ≠ 81 → (L 721)[86 * k + j]? = some (.int .u64 (lN (L 721) (86 * k + j))) ∧ W64 (lN (L 721) (86 * k + j)) := fun j h1 h2 h3 => by
    refine h.eN 721 _ (by decide) ?_ (by omega)
    have hm : (86 * k + j) % 86 = j := by omega
    unfold ek
    rw [if_neg (by decide), if_neg (by decide), if_pos rfl, hm, if_neg (by omega), if_neg h3]
  refine ⟨(e 83 (by omega) (by omega) (by omega)).1, (e 84 (by omega) (by omega) (by omega)).1, ?_, (e 80 (by omega) (by omega) (by omega)).1, (e 83 (by omega) (by omega) (by omega)).2, (e 84 (by omega) (by omega) (by omega)).2, (e 80 (by omega) (by omega) (by omega)).2⟩
  refine h.eB 721 _ (by decide) ?_ (by omega)
  have hm : (86 * k + 81) % 86 = 81 := by omega
  unfold ek
  rw [if_neg (by decide), if_neg (by decide), if_pos rfl, hm, if_neg (by omega), if_pos rfl]

set_option maxHeartbeats 1000000 in
theorem actives_any (cs : Array Value) (L : Nat → List Value) (B : Nat) (w : World) (hB : B ≤ w.heap.size) (h : IsSt w B cs L) (ep : Int) (hep : W64 ep) :
    Calls Try.prog 32 #[.agg cs, .int .u64 ep] w fun e w' => ∃ v, e = .returned v ∧ w'.ownsRow w.heap.size 22 1 v (actL (L 721) ep (cnt L 721)).length (nums (actL (L 721) ep (cnt L 721))) ∧ Below w.heap.size w w' := by
  obtain ⟨av, nv, cv, h721, sv⟩ := h.sl 721 (by decide)
  have hl : (L 721).length = nv * 86 := sv.len
  have hc : cnt L 721 = nv := by unfold cnt; rw [hl]; exact Nat.mul_div_cancel _ (by decide)
  rw [hc]
  have hn : nv ≤ 9223372036854775807 := Nat.le_trans sv.le sv.max
  have hrch := sv.reach
  have hrch2 : nv * 128 ≤ 140737488351232 := hrch
  clear hrch
  obtain ⟨z0, hz⟩ : ∃ z0, ((Try.prog.info? 22).map (fun i => (i.zero, i.size, i.bytes)) = some (some z0, 1, 8)) ∧ z0.cells.size = 1 := ⟨((Try.prog.info? 22).bind (·.zero)).getD undef, by kernel_rfl, by kernel_rfl⟩
  obtain ⟨i0, hi, hz0, hz1, hz2⟩ := info_parts hz.1
  have HI := Lib.hid (And.intro hi (And.intro hz0 (And.intro hz1 hz2)))
  have HZ := Lib.hid hz.2
  have HV := Lib.hid (fun k (hk : k < nv) => val_of h (k := k) (by rw [hc]; exact hk))
  have HS := Lib.hid sv
  have HE := Lib.hid hep
  have HL := Lib.hid hl
  obtain ⟨_, _⟩ := hep
  clear hi hz0 hz1 hz2 hz h sv hc hl
  go_enter Try.func32, Try.ntmps32
  go_wp2
  go_loopw [5, 11] (fun v i wr => ∃ k : Nat, k ≤ nv ∧ i = .int .i64 k ∧ Hid (wr.ownsRow (w.heap.size + 1) 22 1 v (actL (L 721) ep k).length (nums (actL (L 721) ep k))) ∧ Hid (Below w.heap.size w wr) ∧ Hid (Blk wr w.heap.size 49 cs) ∧ w.heap.size < wr.heap.size) (fun _ i _ => nv - (intOf i).toNat)
  case atStart => exact ⟨0, by omega, rfl, Lib.hid (World.ownsRow_nil _ _ _ _), Lib.hid (by (repeat (first | exact Below.refl _ _ | apply Below.drew | apply below_drewN | (refine Below.alloc ?_ ?_ _) | (refine below_setRow ?_ ?_ _) | (refine Below.setCell ?_ ?_ _) | (refine Below.trans ?_ (Below.mono (by assumption) ?_)) | omega | (focus (simp; done)) | (focus (simp; omega))))), Lib.hid (by (repeat (first | assumption | (apply Blk.newAt; (focus (simp; done))) | apply Blk.alloc | apply Blk.setRow | apply Blk.drewN | apply Blk.drew | (refine Blk.setRow_other ?_ ?_ _; focus (first | omega | (simp; omega)))))), by simp⟩
  case round =>
    obtain ⟨k, hk, rfl, ho, hbel, hblk, hgr⟩ := hrel
    have hcell := hblk.out.cell
    by_cases hlt : k < nv
    · obtain ⟨b, o, rfl, hbB, hcc⟩ := HS.out.cells (by omega)
      obtain ⟨g83, g84, g81, g80, w83, w84, w80⟩ := HV.out k hlt
      have c83 : wr.cell? ⟨b, o + k * 86 + 83, none⟩ = some (.int .u64 (lN (L 721) (86 * k + 83))) := by
        rw [show o + k * 86 + 83 = o + (86 * k + 83) by omega]; exact (hbel.out.cell (by show b < _; omega)).trans (hcc _ _ g83)
      have c84 : wr.cell? ⟨b, o + k * 86 + 84, none⟩ = some (.int .u64 (lN (L 721) (86 * k + 84))) := by
        rw [show o + k * 86 + 84 = o + (86 * k + 84) by omega]; exact (hbel.out.cell (by show b < _; omega)).trans (hcc _ _ g84)
      have hact : actB (L 721) ep k = (decide (lN (L 721) (86 * k + 83) ≤ ep) && decide (ep < lN (L 721) (86 * k + 84))) := by unfold actB; rw [Bool.eq_iff_iff]; simp
      have HA := Lib.hid hact
      clear hact g83 g84 g81 g80 hcc
      generalize lN (L 721) (86 * k + 83) = ac at *
      generalize lN (L 721) (86 * k + 84) = ex at *
      obtain ⟨_, _⟩ := w83; obtain ⟨_, _⟩ := w84
      have hlen := actL_len (L 721) ep k
      by_cases ha : actB (L 721) ep k = true
      · have d12 := ha
        rw [HA.out, Bool.and_eq_true] at d12
        obtain ⟨d1, d2⟩ := d12
        have HN := Lib.hid (actL_succ_yes ha)
        clear ha
        go_wp2_with ((at_builtin; (with_reducible apply l_append 37 (w.heap.size + 1)); (focus exact Try.underlying37); (focus exact HI.out.1); (focus exact HI.out.2.1); (focus exact HI.out.2.2.1); (focus exact HI.out.2.2.2); (focus (first | rfl | exact HZ.out)); (focus decide); (focus rfl); (focus exact (ho.out.alloc _)); (focus rfl); (focus exact (slr_new (bytes := 8) _ _ _ (by decide))); (focus exact (by intro u hu; simp at hu; subst hu; rfl)); (focus (first | omega | (simp; omega))); (focus (first | omega | (simp; omega))); (focus (first | omega | (simp; done) | (simp; omega)))))
        intro v2 w2 hown hg
        have hb2 := Lib.hid (grown_below hbel.out ho.out (by omega) hg)
        have hk2 := Lib.hid (grown_blk hblk.out ho.out (by omega) hg)
        have ho2 : Hid (w2.ownsRow (w.heap.size + 1) 22 1 v2 (actL (L 721) ep (k + 1)).length (nums (actL (L 721) ep (k + 1)))) := Lib.hid (by rw [HN.out, nums_snoc, List.length_append]; exact hown)
        have hg2 := hk2.out.lt
        clear hown hg hcell c83 c84
        go_wp2
        go_roundw
        case rel => exact ⟨k + 1, by omega, by go_num, ho2, hb2, hk2, hg2⟩
        case measure => simp [intOf]; omega
      · have hb : (decide (ac ≤ ep) && decide (ep < ex)) = false := by rw [← HA.out]; simpa using ha
        have HN : Hid (actL (L 721) ep (k + 1) = actL (L 721) ep k) := Lib.hid (actL_succ_no (by simpa using ha))
        clear ha
        by_cases h1 : ac ≤ ep
        · have d1 : decide (ac ≤ ep) = true := decide_eq_true h1
          have d2 : decide (ep < ex) = false := by rw [d1] at hb; simpa using hb
          clear hb h1
          go_wp2
          go_roundw
          case rel => exact ⟨k + 1, by omega, by go_num, by rw [HN.out]; exact ho, hbel, hblk, hgr⟩
          case measure => simp [intOf]; omega
        · have d1 : decide (ac ≤ ep) = false := decide_eq_false h1
          clear hb h1
          go_wp2
          go_roundw
          case rel => exact ⟨k + 1, by omega, by go_num, by rw [HN.out]; exact ho, hbel, hblk, hgr⟩
          case measure => simp [intOf]; omega
    · obtain rfl : k = nv := by omega
      go_wp2
      go_ret
      exact ⟨_, rfl, own_weak ho.out (by omega), hbel.out⟩

end Go.Proofs.Ytikbkcidalippaa
