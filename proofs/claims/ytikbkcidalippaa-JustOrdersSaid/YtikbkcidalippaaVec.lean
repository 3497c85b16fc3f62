/-
  pharosref04.Vector over four bools: walked.
-/
import Derived.Test.YtikbkcidalippaaLayRow
namespace Go.Proofs.Ytikbkcidalippaa
open Go.RowKit
theorem Blk.own {w : World} {g : Nat} {t : TypeId} {cs : Array Value} (h : Blk w g t cs) (base m : Nat) (X : List Value) (hX : X = cs.toList) (hm : cs.size = m) (hb : base ≤ g) (hs : m ≤ 9223372036854775807) : w.ownsRow base t 1 (.slice (some ⟨g, 0, none⟩) m m) m X := by
  subst hX; subst hm
  exact ⟨by simp, .inr ⟨g, cs.size, cs, rfl, hb, h, Nat.le_refl _, hs, by simp, by simpa using (List.take_length (l := cs.toList))⟩⟩
attribute [local irreducible] Hid Blk
set_option maxRecDepth 100000

/-- The bits of the first k, as a number. -/
def vecTo (b : Nat → Bool) : Nat → Nat
  | 0 => 0
  | k + 1 => if b k then vecTo b k + 2 ^ k else vecTo b k
theorem vecTo_lt (b : Nat → Bool) : ∀ k, vecTo b k < 2 ^ k
  | 0 => by simp [vecTo]
  | k + 1 => by
    have := vecTo_lt b k
    unfold vecTo
    split <;> rw [Nat.pow_succ] <;> omega
def vec4 (b : Nat → Bool) : List Value := [.int .u8 (vecTo b 4 : Nat)]

set_option maxHeartbeats 2000000 in
theorem vec_any (g o c : Nat) (b : Nat → Bool) (w : World) (hg : g < w.heap.size) (h : ∀ k, k < 4 → w.cell? ⟨g, o + k, none⟩ = some (.bool (b k))) :
    Calls Try.prog 50 #[.slice (some ⟨g, o, none⟩) 4 c] w fun e w' => ∃ v, e = .returned v ∧ w'.ownsRow w.heap.size 5 1 v 1 (vec4 b) ∧ Below w.heap.size w w' := by
  have HC := Lib.hid h
  clear h
  have hmk : ∀ w : World, (Instr.makeSlice 39 (.int .i64 1) (.int .i64 1)).run Try.prog w = .ok (.slice (some ⟨w.heap.size, 0, none⟩) 1 1) (w.alloc (.cells #[.int .u8 0] 5)) := fun _ => by kernel_rfl
  go_enter Try.func50, Try.ntmps50
  go_upto_region 2 with fail
  obtain ⟨wx, hwx⟩ : ∃ wx : World, wx = w.alloc (.cells #[.int .u8 0] 5) := ⟨_, rfl⟩
  have hbx : Hid (Below w.heap.size w wx) := Lib.hid (by rw [hwx]; exact (by (repeat (first | exact Below.refl _ _ | apply Below.drew | apply below_drewN | (refine Below.alloc ?_ ?_ _) | (refine below_setRow ?_ ?_ _) | (refine Below.setCell ?_ ?_ _) | (refine Below.trans ?_ (Below.mono (by assumption) ?_)) | omega | (focus (simp; done)) | (focus (simp; omega))))))
  have hk : Hid (Blk wx w.heap.size 5 #[.int .u8 (vecTo b 0 : Nat)]) := Lib.hid (by rw [hwx]; exact Blk.new _ _ _)
  rw [← hwx]
  clear hwx hmk
  go_wp2
  go_loopw [4] (fun i wr => ∃ k : Nat, k ≤ 4 ∧ i = .int .i64 k ∧ Hid (Blk wr w.heap.size 5 #[.int .u8 (vecTo b k : Nat)]) ∧ Hid (Below w.heap.size w wr)) (fun i _ => 4 - (intOf i).toNat)
  case atStart => exact ⟨0, by omega, rfl, hk, hbx⟩
  case round =>
    obtain ⟨k, hk4, rfl, hK, hB⟩ := hrel
    by_cases hlt : k < 4
    · have hc : wr.cell? ⟨g, o + k, none⟩ = some (.bool (b k)) := (hB.out.cell (by exact hg)).trans (HC.out k hlt)
      have hgr := hK.out.lt
      cases hbk : b k with
      | false =>
        rw [hbk] at hc
        have hv : vecTo b (k + 1) = vecTo b k := by rw [vecTo, hbk]; rfl
        go_wp2
        go_roundw
        case rel => exact ⟨k + 1, by omega, by go_num, Lib.hid (by rw [hv]; exact hK.out), hB⟩
        case measure => simp [intOf]; omega
      | true =>
        rw [hbk] at hc
        have hv : vecTo b (k + 1) = vecTo b k + 2 ^ k := by rw [vecTo, hbk]; rfl
        have hl := vecTo_lt b (k + 1)
        have hk0 : wr.cell? ⟨w.heap.size, 0, none⟩ = some (.int .u8 (vecTo b k : Nat)) := hK.out.cell 0
        have hfz : wr.frozen? ⟨w.heap.size, 0, none⟩ = false := hK.out.frozen 0
        generalize hz : vecTo b (k + 1) = z at *
        generalize vecTo b k = y at *
        go_upto_region 6 with fail
        have HZ : Hid (vecTo b (k + 1) = z) := Lib.hid hz
        have HZV := Lib.hid hv
        have hy : y + 2 ^ k < 2 ^ (k + 1) := by omega
        clear hz hl hv
        rcases (show k = 0 ∨ k = 1 ∨ k = 2 ∨ k = 3 by omega) with rfl | rfl | rfl | rfl
        · replace hy : (y : Int) + 1 ≤ 255 := by simp at hy; omega
          go_wp2
          case roundEnd => exact ⟨⟨1, by omega, rfl, Lib.hid (by rw [show vecTo b 1 = z from HZ.out, HZV.out]; simpa using blk_setCell hK.out 0 (.int .u8 ((y : Int) + 1))), Lib.hid (hB.out.setCell (Nat.le_refl _) _)⟩, by simp [intOf]⟩
        · replace hy : (y : Int) + 2 ≤ 255 := by simp at hy; omega
          go_wp2
          case roundEnd => exact ⟨⟨2, by omega, rfl, Lib.hid (by rw [show vecTo b 2 = z from HZ.out, HZV.out]; simpa using blk_setCell hK.out 0 (.int .u8 ((y : Int) + 2))), Lib.hid (hB.out.setCell (Nat.le_refl _) _)⟩, by simp [intOf]⟩
        · replace hy : (y : Int) + 4 ≤ 255 := by simp at hy; omega
          go_wp2
          case roundEnd => exact ⟨⟨3, by omega, rfl, Lib.hid (by rw [show vecTo b 3 = z from HZ.out, HZV.out]; simpa using blk_setCell hK.out 0 (.int .u8 ((y : Int) + 4))), Lib.hid (hB.out.setCell (Nat.le_refl _) _)⟩, by simp [intOf]⟩
        · replace hy : (y : Int) + 8 ≤ 255 := by simp at hy; omega
          go_wp2
          case roundEnd => exact ⟨⟨4, by omega, rfl, Lib.hid (by rw [show vecTo b 4 = z from HZ.out, HZV.out]; simpa using blk_setCell hK.out 0 (.int .u8 ((y : Int) + 8))), Lib.hid (hB.out.setCell (Nat.le_refl _) _)⟩, by simp [intOf]⟩
    · obtain rfl : k = 4 := by omega
      go_wp2
      go_ret
      exact ⟨_, rfl, hK.out.own _ 1 _ rfl rfl (Nat.le_refl _) (by decide), hB.out⟩
end Go.Proofs.Ytikbkcidalippaa
