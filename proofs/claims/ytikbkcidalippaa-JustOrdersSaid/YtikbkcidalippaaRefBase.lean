/-
  The small functions of the document's answer: activity, epochs, flags, sums: their contracts, walked.
-/
import Derived.Test.YtikbkcidalippaaLook
namespace Go.Proofs.Ytikbkcidalippaa
open Go.RowKit
attribute [local irreducible] Hid Blk
set_option maxRecDepth 100000

set_option maxHeartbeats 400000 in
theorem ractive_any (cs : Array Value) (ep ac ex : Int) (h83 : cs[83]? = some (.int .u64 ac)) (h84 : cs[84]? = some (.int .u64 ex)) (w : World) :
    Calls Try.prog 34 #[.agg cs, .int .u64 ep] w fun e w' => e = .returned (.bool (decide (ac ≤ ep ∧ ep < ex))) ∧ Below w.heap.size w w' := by
  have hB : ∀ o, Below w.heap.size w (w.alloc o) := fun o => (Below.refl _ _).alloc (Nat.le_refl _) o
  have HB := Lib.hid hB
  clear hB
  by_cases h1 : ac ≤ ep
  · by_cases h2 : ep < ex
    · go_enter Try.func34, Try.ntmps34
      go_wp2
      go_ret
      exact ⟨ret_bool (by first | (simp; done) | (simp; omega)), HB.out _⟩
    · have hd : decide (ep < ex) = false := by simpa using h2
      go_enter Try.func34, Try.ntmps34
      go_wp2
      go_ret
      exact ⟨ret_bool (by first | (simp; done) | (simp; omega)), HB.out _⟩
  · have hd : decide (ac ≤ ep) = false := by simpa using h1
    go_enter Try.func34, Try.ntmps34
    go_wp2
    go_ret
    exact ⟨ret_bool (by first | (simp; done) | (simp; omega)), HB.out _⟩

set_option maxHeartbeats 400000 in
theorem repoch_any (cs : Array Value) (h : WfC cs) (w : World) : Calls Try.prog 20 #[.agg cs] w fun e w' => e = .returned (.int .u64 (cN cs 33 / 4)) ∧ Below w.heap.size w w' := by
  obtain ⟨h33, w0, w1⟩ := h.u64 33 rfl
  clear h
  generalize cN cs 33 = s at *
  go_enter Try.func20, Try.ntmps20
  go_wp2
  go_ret
  exact ⟨rfl, (by (repeat (first | exact Below.refl _ _ | apply Below.drew | apply below_drewN | (refine Below.alloc ?_ ?_ _) | (refine below_setRow ?_ ?_ _) | (refine Below.setCell ?_ ?_ _) | (refine Below.trans ?_ (Below.mono (by assumption) ?_)) | omega | (focus (simp; done)) | (focus (simp; omega)))))⟩

set_option maxHeartbeats 400000 in
theorem rbefore_any (cs : Array Value) (h : WfC cs) (w : World) : Calls Try.prog 21 #[.agg cs] w fun e w' => e = .returned (.int .u64 (subz (cN cs 33 / 4) 1)) ∧ Below w.heap.size w w' := by
  have H := Lib.hid h
  obtain ⟨h33, w0, w1⟩ := h.u64 33 rfl
  have hsz1 : 1957 ≤ cs.size := Nat.le_of_eq h.size.symm
  have hsz2 : cs.size ≤ 1957 := Nat.le_of_eq h.size
  have HW := Lib.hid (show W64 (cN cs 33 / 4) from ⟨by omega, by omega⟩)
  clear h h33 w0 w1
  go_enter Try.func21, Try.ntmps21
  go_wp2_with (first
    | ((with_reducible apply l_loadw 49); (focus rfl); (focus (repeat (first | assumption | (apply Blk.newAt; (focus (simp; done))) | apply Blk.alloc | apply Blk.setRow | apply Blk.drewN | apply Blk.drew | (refine Blk.setRow_other ?_ ?_ _; focus (first | omega | (simp; omega)))))); (focus exact Try.underlying49); (focus rfl); (focus exact szState); (focus (first | exact omega | (first | omega | (simp; done) | (simp; omega) | assumption))); (try go_frame))
    | (go_at_call 20; refine (repoch_any cs H.out _).mono ?_; rintro e w1 ⟨rfl, hb1⟩; have hb1 := Lib.hid hb1)
    | (go_at_call 36; refine (rless_any _ _ HW.out ⟨by decide, by decide⟩ _).mono ?_; rintro e w2 ⟨rfl, rfl⟩))
  go_ret
  exact ⟨rfl, Below.trans ((Below.refl _ _).alloc (Nat.le_refl _) _) (hb1.out.mono (by simp))⟩

open Classical in
/-- An epoch that may be one of a validator, as a truth. -/
noncomputable def epB (n : Int) : Bool := decide (EpOK n)
theorem epB_iff {n : Int} : epB n = true ↔ EpOK n := by simp [epB]
set_option maxHeartbeats 400000 in
theorem repok_any (n : Int) (h : W64 n) (w : World) : Calls Try.prog 54 #[.int .u64 n] w fun e w' => e = .returned (.bool (epB n)) ∧ w = w' := by
  obtain ⟨_, _⟩ := h
  by_cases h1 : n = 18446744073709551615
  · have hb : epB n = true := epB_iff.2 (.inl h1)
    have h2 : (n == 18446744073709551615) = true := by rw [h1]; rfl
    have HB := Lib.hid hb
    clear hb h1
    go_enter Try.func54, Try.ntmps54
    go_wp2
    go_ret
    exact ⟨ret_bool HB.out.symm, rfl⟩
  · have h2 : (n == 18446744073709551615) = false := beq_eq_false_iff_ne.2 h1
    by_cases h3 : n < 2199023255552
    · have hb : epB n = true := epB_iff.2 (.inr h3)
      have h4 : decide (n < 2199023255552) = true := decide_eq_true h3
      have HB := Lib.hid hb
      clear hb h1
      go_enter Try.func54, Try.ntmps54
      go_wp2
      go_ret
      exact ⟨ret_bool HB.out.symm, rfl⟩
    · have hb : epB n = false := by rw [← Bool.not_eq_true]; exact fun h => by rcases epB_iff.1 h with h | h <;> omega
      have h4 : decide (n < 2199023255552) = false := decide_eq_false h3
      have HB := Lib.hid hb
      clear hb h1
      go_enter Try.func54, Try.ntmps54
      go_wp2
      go_ret
      exact ⟨ret_bool HB.out.symm, rfl⟩

set_option maxHeartbeats 400000 in
theorem rsum_any (a : Option Addr) (n c B : Nat) (xs : List Value) (w : World) (hs : SlR w B 1 8 a n c xs) (hu : ∀ (j : Nat) u, xs[j]? = some u → CK.u64.ok u) :
    Calls Try.prog 55 #[.slice a n c] w fun e w' => e = .returned (.bool (decide (sumN xs ≤ 144115188075855872))) ∧ w = w' := by
  have hn : n ≤ 9223372036854775807 := Nat.le_trans hs.le hs.max
  have hlen : xs.length = n := by simpa using hs.len
  have HT : ∀ k, 0 ≤ sumN (xs.take k) := fun k => sumN_nonneg _ fun j u h => hu j u (by
    rw [List.getElem?_take] at h; split at h
    · exact h
    · cases h)
  have HL := Lib.hid (sumN_take_le xs hu)
  have HS := Lib.hid (sumN_take_succ xs)
  have HT' := Lib.hid HT
  have HC := Lib.hid hs.cells
  have HU := Lib.hid hu
  have HLn := Lib.hid hlen
  clear hs hu HT hlen
  go_enter Try.func55, Try.ntmps55
  go_wp2
  go_loop [3, 4] (fun r i => ∃ k : Nat, k ≤ n ∧ i = .int .i64 k ∧ r = .int .u64 (sumN (xs.take k)) ∧ sumN (xs.take k) ≤ 144115188075855872) (fun _ i => n - (intOf i).toNat)
  case atStart => exact ⟨0, Nat.zero_le _, rfl, by simp [sumN], by simp [sumN]⟩
  case round =>
    obtain ⟨k, hk, rfl, rfl, hle⟩ := hrel
    have h0 := HT'.out k
    by_cases hlt : k < n
    · obtain ⟨b, o, rfl, _, hc⟩ := HC.out (by omega)
      have hkl : k < xs.length := by rw [HLn.out]; exact hlt
      obtain ⟨x, hx, hw0, hw1⟩ := CK.ok_u64 (HU.out k _ (List.getElem?_eq_getElem hkl))
      have hcell : w.cell? ⟨b, o + k, none⟩ = some (.int .u64 x) := hc k _ (by rw [List.getElem?_eq_getElem hkl, hx])
      have hl : lN xs k = x := by unfold lN; rw [List.getElem?_eq_getElem hkl, hx]; rfl
      have hsucc : Hid (sumN (xs.take (k + 1)) = sumN (xs.take k) + x) := Lib.hid (by have := HS.out k hkl; rw [hl] at this; exact this)
      have hall := HL.out (k + 1)
      have Hall := Lib.hid hall
      clear hall hc hl hx hkl
      generalize sumN (xs.take k) = t at *
      by_cases hgt : 144115188075855872 < x
      · go_wp2
        go_ret
        have h1 := Hall.out; rw [hsucc.out] at h1
        exact ⟨ret_bool (decide_eq_false (by omega)).symm, rfl⟩
      · by_cases hgs : 144115188075855872 < t + x
        · go_wp2
          go_ret
          have h1 := Hall.out; rw [hsucc.out] at h1
          exact ⟨ret_bool (decide_eq_false (by omega)).symm, rfl⟩
        · go_wp2
          go_round
          case rel => exact ⟨k + 1, by omega, by go_num, by rw [hsucc.out], by rw [hsucc.out]; omega⟩
          case measure => simp [intOf]; omega
    · have hkn : k = n := by omega
      have HK := Lib.hid hkn
      clear hkn
      go_wp2
      go_ret
      have h1 := HLn.out; have h2 := HK.out
      rw [List.take_of_length_le (by omega)] at hle
      exact ⟨ret_bool (decide_eq_true hle).symm, rfl⟩

end Go.Proofs.Ytikbkcidalippaa
