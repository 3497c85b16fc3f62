/-
  number, flag, four: a number's bytes as a new slice; walked.
-/
import Derived.Test.YtikbkcidalippaaBytes
import Derived.Test.YtikbkcidalippaaJust
namespace Go.Proofs.Ytikbkcidalippaa
open Go.RowKit
attribute [local irreducible] Hid Blk
set_option maxRecDepth 100000

/-- A piece of a block, as a slice. -/
theorem slr_blk {w : World} {g : Nat} {t : TypeId} {cs : Array Value} (h : Blk w g t cs) (o m bytes : Nat) (ho : o + m ≤ cs.size) (hr : m * bytes ≤ 140737488351232) (hm : m ≤ 9223372036854775807) (xs : List Value) (hx : xs = (cs.extract o (o + m)).toList) :
    SlR w (g + 1) 1 bytes (some ⟨g, o, none⟩) m m xs := by
  subst hx
  exact ⟨by simp; omega, Nat.le_refl _, hm, hr, fun h => (by cases h), fun _ => ⟨_, _, rfl, by omega, fun j u hj => by
    rw [Array.getElem?_toList] at hj
    obtain ⟨hj, -⟩ := get_ext hj
    rw [h.cell]; exact hj⟩⟩
theorem info8 : ∃ i0 z0, Try.prog.info? 5 = some i0 ∧ i0.zero = some z0 ∧ i0.size = 1 ∧ i0.bytes = 1 ∧ z0.cells.size = 1 := by
  obtain ⟨z0, hz⟩ : ∃ z0, ((Try.prog.info? 5).map (fun i => (i.zero, i.size, i.bytes)) = some (some z0, 1, 1)) ∧ z0.cells.size = 1 := ⟨((Try.prog.info? 5).bind (·.zero)).getD undef, by kernel_rfl, by kernel_rfl⟩
  obtain ⟨i0, hi, hz0, hz1, hz2⟩ := info_parts hz.1
  exact ⟨i0, z0, hi, hz0, hz1, hz2, hz.2⟩
theorem num8_arr (n : Int) : (num8 n).toArray.size = 8 := by simp [num8_len]
theorem num8_arr1 (n : Int) : (num8 n).toArray.all (·.oneCell') = true := all_oneCell_toArray (num8_ones n)

set_option maxHeartbeats 1000000 in
theorem number10 (n : Int) (h : W64 n) (w : World) : Calls Try.prog 45 #[.int .u64 n] w fun e w' => ∃ v, e = .returned v ∧ w'.ownsRow w.heap.size 5 1 v 8 (num8 n) ∧ Below w.heap.size w w' := by
  obtain ⟨i0, z0, hi, hz0, hz1, hz2, hz3⟩ := info8
  have HI := Lib.hid (And.intro hi (And.intro hz0 (And.intro hz1 hz2)))
  have HZ := Lib.hid hz3
  have HW := Lib.hid h
  have HX := Lib.hid (num8_arr n)
  have HO := Lib.hid (num8_arr1 n)
  have HN := Lib.hid (num8_ones n)
  have HE : Hid (num8 n = ((num8 n).toArray.extract 0 (0 + 8)).toList) := Lib.hid (by rw [Nat.zero_add, ← num8_arr n, Array.extract_size])
  clear hi hz0 hz1 hz2 hz3 h
  go_enter Try.func45, Try.ntmps45
  go_upto_region 2 with (first
    | (go_at_call 57; refine (rbytes_any n HW.out _).mono ?_; rintro e w1 ⟨rfl, hb1⟩; have hg1 := hb1.size; have Hb1 := Lib.hid hb1; clear hb1)
    | ((with_reducible apply l_alloc 108); (focus kernel_rfl); (try go_frame)) | ((with_reducible apply l_storew 108); (focus rfl); (focus rfl); (focus (repeat (first | assumption | (apply Blk.newAt; (focus (simp; done))) | apply Blk.alloc | apply Blk.setRow | apply Blk.drewN | apply Blk.drew | (refine Blk.setRow_other ?_ ?_ _; focus (first | omega | (simp; omega)))))); (focus exact szB8); (focus (first | exact HX.out | (first | omega | (simp; done) | (simp; omega) | assumption))); (focus (first | omega | (simp; done) | (simp; omega) | assumption)); (focus exact HO.out); (focus (repeat (first | (apply setRow_eq_at; (focus (simp; done))) | (refine setRow_eq_past ?_ ?_; (focus (first | (simp; done) | omega | (simp; omega)))) | apply setRow_eq_drewN | apply setRow_eq_drew | rfl))); (try go_frame)))
  obtain ⟨wy, hwy⟩ : ∃ wy : World, wy = w1.alloc (.cells (num8 n).toArray 108) := ⟨_, rfl⟩
  have hby : Hid (Below w.heap.size w wy) := Lib.hid (by rw [hwy]; exact Hb1.out.alloc (by omega) _)
  have hky : Hid (Blk wy w1.heap.size 108 (num8 n).toArray) := Lib.hid (by rw [hwy]; exact Blk.new _ _ _)
  have hgy : w1.heap.size < wy.heap.size := by rw [hwy]; simp
  rw [← hwy]
  clear hwy Hb1
  have hss := Lib.hid (slr_blk hky.out 0 8 1 (by rw [HX.out]; decide) (by decide) (by decide) _ HE.out)
  go_wp2_with ((at_builtin; (with_reducible apply l_append 39 wy.heap.size); (focus exact Try.underlying39); (focus exact HI.out.1); (focus exact HI.out.2.1); (focus exact HI.out.2.2.1); (focus exact HI.out.2.2.2); (focus (first | rfl | exact HZ.out)); (focus decide); (focus rfl); (focus exact (ownsRow_empty _ _ _ (Nat.le_refl _))); (focus rfl); (focus exact (hss.out.alloc (by omega) _)); (focus exact HN.out); (focus (first | omega | (simp; omega))); (focus (first | omega | (simp; omega))); (focus (first | omega | (simp; done) | (simp; omega)))))
  intro v2 w2 hown hg
  simp only [Nat.zero_add, List.nil_append] at hown
  have Hown := Lib.hid hown
  have Hg := Lib.hid hg
  clear hown hg
  go_wp2
  go_ret
  exact ⟨_, rfl, own_weak Hown.out (by omega), (hby.out.alloc (by omega) _).grown Hg.out (by simp; omega) (fun k hk => by
    have h : some wy.heap.size = some k := hk
    have := Option.some.inj h; omega)⟩

set_option maxHeartbeats 1000000 in
theorem number7 (n : Int) (h : W64 n) (w : World) : Calls Try.prog 58 #[.int .u64 n] w fun e w' => ∃ v, e = .returned v ∧ w'.ownsRow w.heap.size 5 1 v 8 (num8 n) ∧ Below w.heap.size w w' := by
  obtain ⟨i0, z0, hi, hz0, hz1, hz2, hz3⟩ := info8
  have HI := Lib.hid (And.intro hi (And.intro hz0 (And.intro hz1 hz2)))
  have HZ := Lib.hid hz3
  have HW := Lib.hid h
  have HX := Lib.hid (num8_arr n)
  have HO := Lib.hid (num8_arr1 n)
  have HN := Lib.hid (num8_ones n)
  have HE : Hid (num8 n = ((num8 n).toArray.extract 0 (0 + 8)).toList) := Lib.hid (by rw [Nat.zero_add, ← num8_arr n, Array.extract_size])
  clear hi hz0 hz1 hz2 hz3 h
  go_enter Try.func58, Try.ntmps58
  go_upto_region 2 with (first
    | (go_at_call 57; refine (rbytes_any n HW.out _).mono ?_; rintro e w1 ⟨rfl, hb1⟩; have hg1 := hb1.size; have Hb1 := Lib.hid hb1; clear hb1)
    | ((with_reducible apply l_alloc 108); (focus kernel_rfl); (try go_frame)) | ((with_reducible apply l_storew 108); (focus rfl); (focus rfl); (focus (repeat (first | assumption | (apply Blk.newAt; (focus (simp; done))) | apply Blk.alloc | apply Blk.setRow | apply Blk.drewN | apply Blk.drew | (refine Blk.setRow_other ?_ ?_ _; focus (first | omega | (simp; omega)))))); (focus exact szB8); (focus (first | exact HX.out | (first | omega | (simp; done) | (simp; omega) | assumption))); (focus (first | omega | (simp; done) | (simp; omega) | assumption)); (focus exact HO.out); (focus (repeat (first | (apply setRow_eq_at; (focus (simp; done))) | (refine setRow_eq_past ?_ ?_; (focus (first | (simp; done) | omega | (simp; omega)))) | apply setRow_eq_drewN | apply setRow_eq_drew | rfl))); (try go_frame)))
  obtain ⟨wy, hwy⟩ : ∃ wy : World, wy = w1.alloc (.cells (num8 n).toArray 108) := ⟨_, rfl⟩
  have hby : Hid (Below w.heap.size w wy) := Lib.hid (by rw [hwy]; exact Hb1.out.alloc (by omega) _)
  have hky : Hid (Blk wy w1.heap.size 108 (num8 n).toArray) := Lib.hid (by rw [hwy]; exact Blk.new _ _ _)
  have hgy : w1.heap.size < wy.heap.size := by rw [hwy]; simp
  rw [← hwy]
  clear hwy Hb1
  have hss := Lib.hid (slr_blk hky.out 0 8 1 (by rw [HX.out]; decide) (by decide) (by decide) _ HE.out)
  go_wp2_with ((at_builtin; (with_reducible apply l_append 39 wy.heap.size); (focus exact Try.underlying39); (focus exact HI.out.1); (focus exact HI.out.2.1); (focus exact HI.out.2.2.1); (focus exact HI.out.2.2.2); (focus (first | rfl | exact HZ.out)); (focus decide); (focus rfl); (focus exact (ownsRow_empty _ _ _ (Nat.le_refl _))); (focus rfl); (focus exact (hss.out.alloc (by omega) _)); (focus exact HN.out); (focus (first | omega | (simp; omega))); (focus (first | omega | (simp; omega))); (focus (first | omega | (simp; done) | (simp; omega)))))
  intro v2 w2 hown hg
  simp only [Nat.zero_add, List.nil_append] at hown
  have Hown := Lib.hid hown
  have Hg := Lib.hid hg
  clear hown hg
  go_wp2
  go_ret
  exact ⟨_, rfl, own_weak Hown.out (by omega), (hby.out.alloc (by omega) _).grown Hg.out (by simp; omega) (fun k hk => by
    have h : some wy.heap.size = some k := hk
    have := Option.some.inj h; omega)⟩

/-- A truth's byte. -/
def flag1 (b : Bool) : List Value := [.int .u8 (if b = true then 1 else 0)]
/-- A new block, as a slice of the call's own. -/
theorem own_new (w : World) (t : TypeId) (X : List Value) (m base : Nat) (hb : base ≤ w.heap.size) (hm : m ≤ 9223372036854775807) (hx : X.length = m) : (w.alloc (.cells X.toArray t)).ownsRow base t 1 (.slice (some ⟨w.heap.size, 0, none⟩) m m) m X :=
  ⟨by omega, .inr ⟨w.heap.size, m, X.toArray, rfl, hb, heap_alloc_new w _, Nat.le_refl _, hm, by simp [hx], by simp [← hx]⟩⟩
set_option maxHeartbeats 1000000 in
theorem flag_any (b : Bool) (w : World) : Calls Try.prog 59 #[.bool b] w fun e w' => ∃ v, e = .returned v ∧ w'.ownsRow w.heap.size 5 1 v 1 (flag1 b) ∧ Below w.heap.size w w' := by
  cases b
  · go_enter Try.func59, Try.ntmps59
    go_wp2
    go_ret
    exact ⟨_, rfl, own_new _ _ _ _ _ (Nat.le_refl _) (by decide) rfl, (by (repeat (first | exact Below.refl _ _ | apply Below.drew | apply below_drewN | (refine Below.alloc ?_ ?_ _) | (refine below_setRow ?_ ?_ _) | (refine Below.setCell ?_ ?_ _) | (refine Below.trans ?_ (Below.mono (by assumption) ?_)) | omega | (focus (simp; done)) | (focus (simp; omega)))))⟩
  · go_enter Try.func59, Try.ntmps59
    go_wp2
    go_ret
    exact ⟨_, rfl, own_new _ _ _ _ _ (Nat.le_refl _) (by decide) rfl, (by (repeat (first | exact Below.refl _ _ | apply Below.drew | apply below_drewN | (refine Below.alloc ?_ ?_ _) | (refine below_setRow ?_ ?_ _) | (refine Below.setCell ?_ ?_ _) | (refine Below.trans ?_ (Below.mono (by assumption) ?_)) | omega | (focus (simp; done)) | (focus (simp; omega)))))⟩
/-- An offset's four bytes. -/
def fourB (n : Int) : List Value := [.int .u8 (n % 256), .int .u8 (n / 256 % 256), .int .u8 (n / 65536 % 256), .int .u8 (n / 16777216)]
set_option maxHeartbeats 1000000 in
theorem four_any (n : Int) (h0 : 0 ≤ n) (h1 : n < 2147483648) (w : World) : Calls Try.prog 62 #[.int .i64 n] w fun e w' => ∃ v, e = .returned v ∧ w'.ownsRow w.heap.size 5 1 v 4 (fourB n) ∧ Below w.heap.size w w' := by
  go_enter Try.func62, Try.ntmps62
  go_wp2
  go_ret
  exact ⟨_, rfl, own_new _ _ _ _ _ (Nat.le_refl _) (by decide) rfl, (by (repeat (first | exact Below.refl _ _ | apply Below.drew | apply below_drewN | (refine Below.alloc ?_ ?_ _) | (refine below_setRow ?_ ?_ _) | (refine Below.setCell ?_ ?_ _) | (refine Below.trans ?_ (Below.mono (by assumption) ?_)) | omega | (focus (simp; done)) | (focus (simp; omega)))))⟩

end Go.Proofs.Ytikbkcidalippaa
