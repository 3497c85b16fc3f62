/-
  The functions of a state's cells that look and change nothing: the root at a slot, the epochs; their contracts, walked.
-/
import Derived.Test.YtikbkcidalippaaBase
namespace Go.Proofs.Ytikbkcidalippaa
open Go.RowKit
attribute [local irreducible] Hid Blk
set_option maxRecDepth 100000

/-! ### How many cells the types have -/
theorem szRoot : (Try.prog.info? 24).map (·.size) = some 32 := by kernel_rfl
theorem szState : (Try.prog.info? 49).map (·.size) = some 1957 := by kernel_rfl
theorem szState' {n : Nat} (h : n = 1957) : (Try.prog.info? 49).map (·.size) = some n := by rw [h]; exact szState
theorem szRoot' {n : Nat} (h : n = 32) : (Try.prog.info? 24).map (·.size) = some n := by rw [h]; exact szRoot
theorem szCheck : (Try.prog.info? 42).map (·.size) = some 33 := by kernel_rfl
theorem szCheck' {n : Nat} (h : n = 33) : (Try.prog.info? 42).map (·.size) = some n := by rw [h]; exact szCheck

theorem szVal : (Try.prog.info? 82).map (·.size) = some 86 := by kernel_rfl
@[simp] theorem szzVal : (zc Try.prog 82).size = 86 := by kernel_rfl
@[simp] theorem szzCheck : (zc Try.prog 42).size = 33 := by kernel_rfl
@[simp] theorem szzRoot : (zc Try.prog 24).size = 32 := by kernel_rfl
@[simp] theorem szzState : (zc Try.prog 49).size = 1957 := by kernel_rfl

/-- The root that is kept for a slot. -/
def rootOf (cs : Array Value) (sl : Int) : Array Value := cs.extract (141 + (sl % 8).toNat * 32) (141 + (sl % 8).toNat * 32 + 32)

set_option maxHeartbeats 1000000 in
theorem rootAt_ok (cs : Array Value) (h : WfC cs) (sl : Int) (hs : W64 sl) (h1 : sl < cN cs 33) (h2 : cN cs 33 ≤ sl + 8) (w : World) :
    Calls Try.prog 44 #[.agg cs, .int .u64 sl] w fun e w' => e = .returned (.tuple #[.agg (rootOf cs sl), .int .i64 0]) ∧ Below w.heap.size w w' := by
  obtain ⟨h33, hw33⟩ := h.u64 33 rfl
  have hsz1 : 1957 ≤ cs.size := Nat.le_of_eq h.size.symm
  have hsz2 : cs.size ≤ 1957 := Nat.le_of_eq h.size
  have Hone := Lib.hid h.ones
  have Hs := Lib.hid hs
  have Hw := Lib.hid hw33
  generalize cN cs 33 = s at *
  obtain ⟨_, _⟩ := hs; obtain ⟨_, _⟩ := hw33
  have hne : ((s - sl : Int) == 0) = false := by rw [beq_eq_false_iff_ne]; omega
  unfold rootOf
  clear h
  go_enter Try.func44, Try.ntmps44
  go_wp2_with (first
    | (go_at_call 56; refine (sub_le _ _ Hw.out Hs.out (by omega) _).mono ?_; rintro e w' ⟨rfl, rfl⟩)
    | ((with_reducible apply l_load 24); (focus rfl); (focus (repeat (first | assumption | (apply Blk.newAt; (focus (simp; done))) | apply Blk.alloc | apply Blk.setRow | apply Blk.drewN | apply Blk.drew | (refine Blk.setRow_other ?_ ?_ _; focus (first | omega | (simp; omega)))))); (focus exact Try.underlying24); (focus rfl); (focus exact szRoot); (focus (first | omega | (simp; done) | (simp; omega) | assumption)); (try go_frame))
    | ((with_reducible apply l_storew 24); (focus rfl); (focus rfl); (focus (repeat (first | assumption | (apply Blk.newAt; (focus (simp; done))) | apply Blk.alloc | apply Blk.setRow | apply Blk.drewN | apply Blk.drew | (refine Blk.setRow_other ?_ ?_ _; focus (first | omega | (simp; omega)))))); (focus exact szRoot); (focus (first | exact rfl | (first | omega | (simp; done) | (simp; omega) | assumption))); (focus (first | omega | (simp; done) | (simp; omega) | assumption)); (focus exact (ones_extract Hone.out _ _)); (focus (repeat (first | (apply setRow_eq_at; (focus (simp; done))) | (refine setRow_eq_past ?_ ?_; (focus (first | (simp; done) | omega | (simp; omega)))) | apply setRow_eq_drewN | apply setRow_eq_drew | rfl))); (try go_frame)))
  ((with_reducible apply l_ret2); (focus rfl); (focus rfl); (focus rfl); (focus (repeat (first | assumption | (apply Blk.newAt; (focus (simp; done))) | apply Blk.alloc | apply Blk.setRow | apply Blk.drewN | apply Blk.drew | (refine Blk.setRow_other ?_ ?_ _; focus (first | omega | (simp; omega)))))); (focus exact Try.underlying24); (focus rfl); (focus exact szRoot); (focus (first | exact rfl | (first | omega | (simp; done) | (simp; omega) | assumption))); (focus rfl))
  exact ⟨rfl, (by (repeat (first | exact Below.refl _ _ | apply Below.drew | apply below_drewN | (refine Below.alloc ?_ ?_ _) | (refine below_setRow ?_ ?_ _) | (refine Below.setCell ?_ ?_ _) | (refine Below.trans ?_ (Below.mono (by assumption) ?_)) | omega | (focus (simp; done)) | (focus (simp; omega)))))⟩

/-- A checkpoint's cells. -/
def chk (e : Int) (r : Array Value) : Array Value := #[.int .u64 e] ++ r
theorem size_chk {e : Int} {r : Array Value} (h : r.size = 32) : (chk e r).size = 33 := by simp [chk]; omega
theorem ones_chk {e : Int} {r : Array Value} (h : r.all (·.oneCell') = true) : (chk e r).all (·.oneCell') = true := by
  rw [chk, Array.all_append, h]
  simp [Value.oneCell']
theorem size_rootOf {cs : Array Value} (h : cs.size = 1957) (sl : Int) : (rootOf cs sl).size = 32 := by simp [rootOf]; omega

theorem built_chk (e : Int) (r : Array Value) (h : r.size = 32) : Try.prog.built 42 [(0, .int .u64 e), (1, .agg r)] = some (chk e r) := by
  have hz := szzCheck
  rw [built_struct (by kernel_rfl) Try.underlying42 (places := [(0, 1), (1, 32)]) (by kernel_rfl)]
  generalize zc Try.prog 42 = Z at hz
  have h1 : (patch Z 0 #[.int .u64 e]).size = 33 := by rw [size_patch (by simp; omega)]; exact hz
  rw [fill_cons (off := 0) rfl (by show 0 + 1 ≤ _; omega), fill_cons (off := 1) (by show some (1, 32) = some (1, r.size); rw [h]) (by show 1 + r.size ≤ (patch Z 0 #[.int .u64 e]).size; omega), fill_nil]
  congr 1
  apply Array.ext_getElem?
  intro i
  show (patch (patch Z 0 #[.int .u64 e]) 1 r)[i]? = (#[.int .u64 e] ++ r)[i]?
  rw [Array.getElem?_append]
  by_cases h0 : i < 1
  · rw [get_patch_out (by omega) (by omega), get_patch_in (by simp; omega) (by omega) (by simpa using h0), if_pos (by simpa using h0)]; rfl
  · rw [if_neg (by simpa using h0)]
    by_cases h2 : i < 33
    · rw [get_patch_in (by omega) (by omega) (by omega)]; rfl
    · rw [Array.getElem?_eq_none (by rw [size_patch (by omega)]; omega), Array.getElem?_eq_none (by simp; omega)]

set_option maxHeartbeats 400000 in
/-- The first slot of an epoch as a checkpoint. -/
theorem mark_ok (cs : Array Value) (h : WfC cs) (g : Nat) (e : Int) (he : W64 e) (h1 : e * 4 < cN cs 33) (h2 : cN cs 33 ≤ e * 4 + 8) (w : World) (hb : Blk w g 49 cs) :
    Calls Try.prog 26 #[.pointer (some ⟨g, 0, none⟩), .int .u64 e] w fun en w' => en = .returned (.agg (chk e (rootOf cs (e * 4)))) ∧ Below w.heap.size w w' := by
  obtain ⟨h33, hw33⟩ := h.u64 33 rfl
  have hW : W64 (e * 4) := ⟨by have := he.1; omega, by have := hw33.2; omega⟩
  have hsz1 : 1957 ≤ cs.size := Nat.le_of_eq h.size.symm
  have hsz2 : cs.size ≤ 1957 := Nat.le_of_eq h.size
  have HW := Lib.hid hW
  have H := Lib.hid h
  have Hr := Lib.hid (size_rootOf h.size (e * 4))
  have Hro : Hid ((rootOf cs (e * 4)).all (·.oneCell') = true) := Lib.hid (ones_extract h.ones _ _)
  obtain ⟨_, _⟩ := he; obtain ⟨_, _⟩ := hW
  clear h hw33 h33
  have Hchk := Lib.hid (szzCheck)
  go_enter Try.func26, Try.ntmps26
  go_wp2_with (first
    | ((with_reducible apply l_alloc 42); (focus kernel_rfl); (try go_frame))
    | ((with_reducible apply l_alloc 24); (focus kernel_rfl); (try go_frame))
    | ((with_reducible apply l_loadw 49); (focus rfl); (focus (repeat (first | assumption | (apply Blk.newAt; (focus (simp; done))) | apply Blk.alloc | apply Blk.setRow | apply Blk.drewN | apply Blk.drew | (refine Blk.setRow_other ?_ ?_ _; focus (first | omega | (simp; omega)))))); (focus exact Try.underlying49); (focus rfl); (focus exact szState); (focus (first | exact rfl | (first | omega | (simp; done) | (simp; omega) | assumption))); (try go_frame))
    | ((with_reducible apply l_storew 24); (focus rfl); (focus rfl); (focus (repeat (first | assumption | (apply Blk.newAt; (focus (simp; done))) | apply Blk.alloc | apply Blk.setRow | apply Blk.drewN | apply Blk.drew | (refine Blk.setRow_other ?_ ?_ _; focus (first | omega | (simp; omega)))))); (focus exact szRoot); (focus (first | exact Hr.out | (first | omega | (simp; done) | (simp; omega) | assumption))); (focus (first | omega | (simp; done) | (simp; omega) | assumption)); (focus exact Hro.out); (focus (repeat (first | (apply setRow_eq_at; (focus (simp; done))) | (refine setRow_eq_past ?_ ?_; (focus (first | (simp; done) | omega | (simp; omega)))) | apply setRow_eq_drewN | apply setRow_eq_drew | rfl))); (try go_frame))
    | ((with_reducible apply l_loadw 24); (focus rfl); (focus (repeat (first | assumption | (apply Blk.newAt; (focus (simp; done))) | apply Blk.alloc | apply Blk.setRow | apply Blk.drewN | apply Blk.drew | (refine Blk.setRow_other ?_ ?_ _; focus (first | omega | (simp; omega)))))); (focus exact Try.underlying24); (focus rfl); (focus exact szRoot); (focus (first | exact Hr.out | (first | omega | (simp; done) | (simp; omega) | assumption))); (try go_frame))
    | ((with_reducible apply l_build 42); (focus rfl); (focus exact (built_chk _ _ Hr.out)); (try go_frame))
    | ((with_reducible apply l_storew 42); (focus rfl); (focus rfl); (focus (repeat (first | assumption | (apply Blk.newAt; (focus (simp; done))) | apply Blk.alloc | apply Blk.setRow | apply Blk.drewN | apply Blk.drew | (refine Blk.setRow_other ?_ ?_ _; focus (first | omega | (simp; omega)))))); (focus exact szCheck); (focus (first | exact (size_chk Hr.out) | (first | omega | (simp; done) | (simp; omega) | assumption))); (focus (first | omega | (simp; done) | (simp; omega) | assumption)); (focus exact (ones_chk Hro.out)); (focus (repeat (first | (apply setRow_eq_at; (focus (simp; done))) | (refine setRow_eq_past ?_ ?_; (focus (first | (simp; done) | omega | (simp; omega)))) | apply setRow_eq_drewN | apply setRow_eq_drew | rfl))); (try go_frame))
    | (go_at_call 44; refine (rootAt_ok cs H.out _ HW.out h1 h2 _).mono ?_; rintro e w' ⟨rfl, hb'⟩
       have hk := (Blk.new w 42 (zc Try.prog 42)).below hb' (by simp)
       have hz := hb'.size
       simp only [World.size_alloc] at hz))
  ((with_reducible apply l_ret); (focus rfl); (focus rfl); (focus (repeat (first | assumption | (apply Blk.newAt; (focus (simp; done))) | apply Blk.alloc | apply Blk.setRow | apply Blk.drewN | apply Blk.drew | (refine Blk.setRow_other ?_ ?_ _; focus (first | omega | (simp; omega)))))); (focus exact Try.underlying42); (focus rfl); (focus exact szCheck); (focus (first | exact (size_chk Hr.out) | (first | omega | (simp; done) | (simp; omega) | assumption))); (focus rfl))
  exact ⟨rfl, (by (repeat (first | exact Below.refl _ _ | apply Below.drew | apply below_drewN | (refine Below.alloc ?_ ?_ _) | (refine below_setRow ?_ ?_ _) | (refine Below.setCell ?_ ?_ _) | (refine Below.trans ?_ (Below.mono (by assumption) ?_)) | omega | (focus (simp; done)) | (focus (simp; omega)))))⟩

end Go.Proofs.Ytikbkcidalippaa
