/-
  pharosref03: sizesOK, Head: walked. What Lay lays: plain Lean.
-/
import Derived.Test.YtikbkcidalippaaNum
import Derived.Deep.QuietTactic
import Derived.BigQuiet
namespace Go.Proofs.Ytikbkcidalippaa
open Go.RowKit
attribute [local irreducible] Hid Blk
set_option maxRecDepth 100000

/-- The head's length; the variable parts; the head and the fixed parts. -/
def headTo (S : Nat → Nat) : Nat → Nat
  | 0 => 0
  | k + 1 => headTo S k + (if S k = 0 then 4 else S k)
def layR (P : Nat → List Value) (S : Nat → Nat) : Nat → List Value
  | 0 => []
  | k + 1 => if S k = 0 then layR P S k ++ P k else layR P S k
def layO (h : Nat) (P : Nat → List Value) (S : Nat → Nat) : Nat → List Value
  | 0 => []
  | k + 1 => if S k = 0 then layO h P S k ++ fourB (h + (layR P S k).length : Nat) else layO h P S k ++ P k
def layB (P : Nat → List Value) (S : Nat → Nat) (n : Nat) : List Value := layO (headTo S n) P S n ++ layR P S n

theorem headTo_le {S : Nat → Nat} : ∀ n, (∀ j, j < n → S j ≤ 65536) → headTo S n ≤ n * 65536
  | 0, _ => by simp [headTo]
  | n + 1, h => by
    have h1 := headTo_le n fun j hj => h j (by omega)
    have h2 := h n (by omega)
    unfold headTo; split <;> omega
theorem layR_len {P : Nat → List Value} {S : Nat → Nat} {M : Nat} : ∀ n, (∀ j, j < n → (P j).length ≤ M) → (layR P S n).length ≤ n * M
  | 0, _ => by simp [layR]
  | n + 1, h => by
    have h1 := layR_len (S := S) n fun j hj => h j (by omega)
    have h2 := h n (by omega)
    rw [Nat.succ_mul]
    unfold layR; split
    · rw [List.length_append]; omega
    · omega
theorem layO_len {h : Nat} {P : Nat → List Value} {S : Nat → Nat} {M : Nat} (hM : 4 ≤ M) : ∀ n, (∀ j, j < n → (P j).length ≤ M) → (layO h P S n).length ≤ n * M
  | 0, _ => by simp [layO]
  | n + 1, hh => by
    have h1 := layO_len (h := h) (S := S) hM n fun j hj => hh j (by omega)
    have h2 := hh n (by omega)
    rw [Nat.succ_mul]
    unfold layO; split
    · rw [List.length_append]
      have : (fourB (h + (layR P S n).length : Nat)).length = 4 := rfl
      omega
    · rw [List.length_append]; omega
theorem fourB_ones (n : Int) : ∀ u ∈ fourB n, u.oneCell' = true := by
  intro u hu
  simp only [fourB, List.mem_cons, List.not_mem_nil, or_false] at hu
  rcases hu with rfl | rfl | rfl | rfl <;> rfl
theorem layR_ones {P : Nat → List Value} {S : Nat → Nat} : ∀ n, (∀ j, j < n → ∀ u ∈ P j, u.oneCell' = true) → ∀ u ∈ layR P S n, u.oneCell' = true
  | 0, _ => by simp [layR]
  | n + 1, h => by
    intro u hu
    unfold layR at hu
    split at hu
    · rcases List.mem_append.1 hu with hu | hu
      · exact layR_ones n (fun j hj => h j (by omega)) u hu
      · exact h n (by omega) u hu
    · exact layR_ones n (fun j hj => h j (by omega)) u hu

set_option maxHeartbeats 1000000 in
theorem sizes_yes (b o n c : Nat) (S : Nat → Nat) (w : World) (h1 : 1 ≤ n) (h64 : n ≤ 64) (hS : ∀ j, j < n → w.cell? ⟨b, o + j, none⟩ = some (.int .i64 (S j))) (hm : ∀ j, j < n → S j ≤ 65536) :
    Calls Try.prog 60 #[.slice (some ⟨b, o, none⟩) n c] w fun e w' => e = .returned (.bool true) ∧ w = w' := by
  have HS := Lib.hid hS
  have HM := Lib.hid hm
  clear hS hm
  have d1 : decide ((n : Int) < 1) = false := decide_eq_false (by omega)
  have d2 : decide (64 < (n : Int)) = false := decide_eq_false (by omega)
  go_enter Try.func60, Try.ntmps60
  go_wp2
  go_loop [3] (fun i => ∃ k : Nat, k ≤ n ∧ i = .int .i64 k) (fun i => n - (intOf i).toNat)
  case atStart => exact ⟨0, by omega, rfl⟩
  case round =>
    obtain ⟨k, hk, rfl⟩ := hrel
    by_cases hlt : k < n
    · have hc := HS.out k hlt
      have hb := HM.out k hlt
      generalize S k = s at *
      have e1 : decide ((s : Int) < 0) = false := decide_eq_false (by omega)
      have e2 : decide (65536 < (s : Int)) = false := decide_eq_false (by omega)
      go_wp2
      go_round
      case rel => exact ⟨k + 1, by omega, by go_num⟩
      case measure => simp [intOf]; omega
    · obtain rfl : k = n := by omega
      go_wp2
      go_ret
      exact ⟨rfl, rfl⟩

set_option maxHeartbeats 1000000 in
theorem head_any (b o n c : Nat) (S : Nat → Nat) (w : World) (h64 : n ≤ 64) (hS : ∀ j, j < n → w.cell? ⟨b, o + j, none⟩ = some (.int .i64 (S j))) (hm : ∀ j, j < n → S j ≤ 65536) :
    Calls Try.prog 61 #[.slice (some ⟨b, o, none⟩) n c] w fun e w' => e = .returned (.int .i64 (headTo S n)) ∧ w = w' := by
  have HS := Lib.hid hS
  have HM := Lib.hid hm
  have HL := Lib.hid (fun k (hk : k ≤ n) => headTo_le (S := S) k fun j hj => hm j (by omega))
  clear hS hm
  go_enter Try.func61, Try.ntmps61
  go_wp2
  go_loop [3, 4] (fun h i => ∃ k : Nat, k ≤ n ∧ i = .int .i64 k ∧ h = .int .i64 (headTo S k)) (fun _ i => n - (intOf i).toNat)
  case atStart => exact ⟨0, by omega, rfl, rfl⟩
  case round =>
    obtain ⟨k, hk, rfl, rfl⟩ := hrel
    have hl := HL.out k hk
    by_cases hlt : k < n
    · have hc := HS.out k hlt
      have hb := HM.out k hlt
      have hn : Hid (headTo S (k + 1) = headTo S k + (if S k = 0 then 4 else S k)) := Lib.hid rfl
      generalize headTo S k = h at *
      by_cases hz : S k = 0
      · have hn2 : Hid (headTo S (k + 1) = h + 4) := Lib.hid (by rw [hn.out, if_pos hz])
        rw [hz] at hc
        clear hz hn
        go_wp2
        go_round
        case rel => exact ⟨k + 1, by omega, by go_num, by rw [hn2.out]; go_num⟩
        case measure => simp [intOf]; omega
      · have hn2 : Hid (headTo S (k + 1) = h + S k) := Lib.hid (by rw [hn.out, if_neg hz])
        have e1 : ((S k : Int) == 0) = false := beq_eq_false_iff_ne.2 (by omega)
        clear hz hn
        generalize S k = s at *
        go_wp2
        go_round
        case rel => exact ⟨k + 1, by omega, by go_num, by rw [hn2.out]; go_num⟩
        case measure => simp [intOf]; omega
    · obtain rfl : k = n := by omega
      go_wp2
      go_ret
      exact ⟨rfl, rfl⟩

end Go.Proofs.Ytikbkcidalippaa
