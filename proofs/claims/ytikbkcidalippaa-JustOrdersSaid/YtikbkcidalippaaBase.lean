/-
  The small functions below all others: their contracts, walked.
-/
import Derived.Test.YtikbkcidalippaaProg
import Derived.Test.YtikbkcidalippaaState
import Derived.Outline
import Derived.BigQuiet
import Derived.Shelf.Spec.BitsCarry
namespace Go.Proofs.Ytikbkcidalippaa
open Go.RowKit
attribute [local irreducible] Hid Blk
set_option maxRecDepth 100000

theorem ret_bool {a b : Bool} (h : a = b) : Ending.returned (.bool a) = .returned (.bool b) := by rw [h]
theorem ret_int {k : IntKind} {a b : Int} (h : a = b) : Ending.returned (.int k a) = .returned (.int k b) := by rw [h]

/-- a less b, or 0. -/
def subz (a b : Int) : Int := if b ≤ a then a - b else 0
theorem subz_w {a b : Int} (ha : W64 a) (hb : W64 b) : W64 (subz a b) := by
  obtain ⟨_, _⟩ := ha; obtain ⟨_, _⟩ := hb
  unfold subz W64; split <;> omega

set_option maxHeartbeats 400000 in
theorem rless_any (a b : Int) (ha : W64 a) (hb : W64 b) (w : World) :
    Calls Try.prog 36 #[.int .u64 a, .int .u64 b] w fun e w' => e = .returned (.int .u64 (subz a b)) ∧ w = w' := by
  obtain ⟨_, _⟩ := ha; obtain ⟨_, _⟩ := hb
  unfold subz
  by_cases h : b ≤ a
  · rw [if_pos h]
    go_enter Try.func36, Try.ntmps36
    go_wp2
    go_ret
    exact ⟨rfl, rfl⟩
  · rw [if_neg h]
    go_enter Try.func36, Try.ntmps36
    go_wp2
    go_ret
    exact ⟨rfl, rfl⟩

set_option maxHeartbeats 400000 in
theorem less_any (a b : Int) (ha : W64 a) (hb : W64 b) (w : World) :
    Calls Try.prog 27 #[.int .u64 a, .int .u64 b] w fun e w' => e = .returned (.int .u64 (subz a b)) ∧ w = w' := by
  obtain ⟨_, _⟩ := ha; obtain ⟨_, _⟩ := hb
  unfold subz
  by_cases h : b ≤ a
  · rw [if_pos h]
    go_enter Try.func27, Try.ntmps27
    go_wp2
    all_goals (go_ret; exact ⟨ret_int (by omega), rfl⟩)
  · rw [if_neg h]
    go_enter Try.func27, Try.ntmps27
    go_wp2
    all_goals (go_ret; exact ⟨ret_int (by omega), rfl⟩)

set_option maxHeartbeats 400000 in
theorem active_any (cs : Array Value) (ep ac ex : Int) (h83 : cs[83]? = some (.int .u64 ac)) (h84 : cs[84]? = some (.int .u64 ex)) (w : World) :
    Calls Try.prog 31 #[.agg cs, .int .u64 ep] w fun e w' => e = .returned (.bool (decide (ac ≤ ep ∧ ep < ex))) ∧ Below w.heap.size w w' := by
  have hB : ∀ o, Below w.heap.size w (w.alloc o) := fun o => (Below.refl _ _).alloc (Nat.le_refl _) o
  have HB := Lib.hid hB
  clear hB
  by_cases h1 : ac ≤ ep
  · by_cases h2 : ep < ex
    · go_enter Try.func31, Try.ntmps31
      go_wp2
      go_ret
      exact ⟨ret_bool (by first | (simp; done) | (simp; omega)), HB.out _⟩
    · have hd : decide (ep < ex) = false := by simpa using h2
      go_enter Try.func31, Try.ntmps31
      go_wp2
      go_ret
      exact ⟨ret_bool (by first | (simp; done) | (simp; omega)), HB.out _⟩
  · have hd : decide (ac ≤ ep) = false := by simpa using h1
    go_enter Try.func31, Try.ntmps31
    go_wp2
    go_ret
    exact ⟨ret_bool (by first | (simp; done) | (simp; omega)), HB.out _⟩

set_option maxHeartbeats 400000 in
theorem few_any (a : Option Addr) (n c B : Nat) (xs : List Value) (w : World) (hs : SlR w B 1 8 a n c xs) (hu : ∀ (j : Nat) u, xs[j]? = some u → CK.u64.ok u) :
    Calls Try.prog 38 #[.slice a n c] w fun e w' => e = .returned (.bool (decide (sumN xs ≤ 144115188075855872))) ∧ w = w' := by
  have hn : n ≤ 9223372036854775807 := Nat.le_trans hs.le hs.max
  have hlen : xs.length = n := by simpa using hs.len
  have HT : ∀ k, 0 ≤ sumN (xs.take k) := fun k => sumN_nonneg _ fun j u h => hu j u (by
    rw [List.getElem?_take] at h; split at h
    · exact h
    · cases h)
  have HL := Lib.hid (sumN_take_le xs hu)
  have HS := Lib.hid (sumN_take_succ xs)
  have HT' := Lib.hid HT
  have HC := Lib.hid hs.cells
  have HU := Lib.hid hu
  have HLn := Lib.hid hlen
  clear hs hu HT hlen
  go_enter Try.func38, Try.ntmps38
  go_wp2
  go_loop [3, 5, 8] (fun r _ i => ∃ k : Nat, k ≤ n ∧ i = .int .i64 k ∧ r = .int .u64 (144115188075855872 - sumN (xs.take k)) ∧ sumN (xs.take k) ≤ 144115188075855872) (fun _ _ i => n - (intOf i).toNat)
  case atStart => exact ⟨0, Nat.zero_le _, rfl, by simp [sumN], by simp [sumN]⟩
  case round =>
    obtain ⟨k, hk, rfl, rfl, hle⟩ := hrel
    have h0 := HT'.out k
    by_cases hlt : k < n
    · obtain ⟨b, o, rfl, _, hc⟩ := HC.out (by omega)
      have hkl : k < xs.length := by rw [HLn.out]; exact hlt
      obtain ⟨x, hx, hw0, hw1⟩ := CK.ok_u64 (HU.out k _ (List.getElem?_eq_getElem hkl))
      have hcell : w.cell? ⟨b, o + k, none⟩ = some (.int .u64 x) := hc k _ (by rw [List.getElem?_eq_getElem hkl, hx])
      have hl : lN xs k = x := by unfold lN; rw [List.getElem?_eq_getElem hkl, hx]; rfl
      have hsucc : Hid (sumN (xs.take (k + 1)) = sumN (xs.take k) + x) := Lib.hid (by have := HS.out k hkl; rw [hl] at this; exact this)
      have hall := HL.out (k + 1)
      have Hall := Lib.hid hall
      clear hall hc hl hx hkl
      by_cases hgt : 144115188075855872 - sumN (xs.take k) < x
      · go_wp2
        go_ret
        have h1 := Hall.out; rw [hsucc.out] at h1
        exact ⟨ret_bool (decide_eq_false (by omega)).symm, rfl⟩
      · go_wp2
        go_round
        case rel => exact ⟨k + 1, by omega, by go_num, by rw [hsucc.out]; congr 1; omega, by rw [hsucc.out]; omega⟩
        case measure => simp [intOf]; omega
    · have hkn : k = n := by omega
      have HK := Lib.hid hkn
      clear hkn
      go_wp2
      go_ret
      have h1 := HLn.out; have h2 := HK.out
      rw [List.take_of_length_le (by omega)] at hle
      exact ⟨ret_bool (decide_eq_true hle).symm, rfl⟩

/-- The model's entry for math/bits.Sub64, at borrow 0. -/
theorem sub64_le (x y : Int) (hx : W64 x) (hy : W64 y) (h : y ≤ x) (w : World) : (callFunc 63 #[.int .u64 x, .int .u64 y, .int .u64 0]).run Try.prog w = .ok (.value (.tuple #[.int .u64 (x - y), .int .u64 0])) w := by
  obtain ⟨hx0, hx1⟩ := hx; obtain ⟨hy0, hy1⟩ := hy
  obtain ⟨x, rfl⟩ := Int.eq_ofNat_of_zero_le hx0
  obtain ⟨y, rfl⟩ := Int.eq_ofNat_of_zero_le hy0
  have e1 : ((x : Int) - y) = (((x + 18446744073709551616 - y - 0) % 18446744073709551616 : Nat) : Int) := by omega
  rw [e1, run_callFunc_extern Try.func63 (by kernel_rfl) (by kernel_rfl) (by kernel_rfl) (e := sub64Entry) (by kernel_rfl),
    show (#[.int .u64 (x : Int), .int .u64 (y : Int), .int .u64 0] : Array Value) = #[.int .u64 ((x : Nat) : Int), .int .u64 ((y : Nat) : Int), .int .u64 ((0 : Nat) : Int)] from rfl, run_sub64 x y 0 (by decide)]
  rw [if_neg (by omega)]
  rfl
theorem sub64_lt (x y : Int) (hx : W64 x) (hy : W64 y) (h : x < y) (w : World) : (callFunc 63 #[.int .u64 x, .int .u64 y, .int .u64 0]).run Try.prog w = .ok (.value (.tuple #[.int .u64 (x + 18446744073709551616 - y), .int .u64 1])) w := by
  obtain ⟨hx0, hx1⟩ := hx; obtain ⟨hy0, hy1⟩ := hy
  obtain ⟨x, rfl⟩ := Int.eq_ofNat_of_zero_le hx0
  obtain ⟨y, rfl⟩ := Int.eq_ofNat_of_zero_le hy0
  have e1 : ((x : Int) + 18446744073709551616 - y) = (((x + 18446744073709551616 - y - 0) % 18446744073709551616 : Nat) : Int) := by omega
  rw [e1, run_callFunc_extern Try.func63 (by kernel_rfl) (by kernel_rfl) (by kernel_rfl) (e := sub64Entry) (by kernel_rfl),
    show (#[.int .u64 (x : Int), .int .u64 (y : Int), .int .u64 0] : Array Value) = #[.int .u64 ((x : Nat) : Int), .int .u64 ((y : Nat) : Int), .int .u64 ((0 : Nat) : Int)] from rfl, run_sub64 x y 0 (by decide)]
  rw [if_pos (by omega)]
  rfl

set_option maxHeartbeats 400000 in
theorem sub_le (a b : Int) (ha : W64 a) (hb : W64 b) (h : b ≤ a) (w : World) :
    Calls Try.prog 56 #[.int .u64 a, .int .u64 b] w fun e w' => e = .returned (.tuple #[.int .u64 (a - b), .int .i64 0]) ∧ w = w' := by
  have h64 := sub64_le a b ha hb h
  obtain ⟨_, _⟩ := ha; obtain ⟨_, _⟩ := hb
  go_enter Try.func56, Try.ntmps56
  go_wp2
  go_ret2
  exact ⟨rfl, rfl⟩
set_option maxHeartbeats 400000 in
theorem sub_lt (a b : Int) (ha : W64 a) (hb : W64 b) (h : a < b) (w : World) :
    Calls Try.prog 56 #[.int .u64 a, .int .u64 b] w fun e w' => e = .returned (.tuple #[.int .u64 0, .int .i64 2]) ∧ w = w' := by
  have h64 := sub64_lt a b ha hb h
  obtain ⟨_, _⟩ := ha; obtain ⟨_, _⟩ := hb
  go_enter Try.func56, Try.ntmps56
  go_wp2
  go_ret2
  exact ⟨rfl, rfl⟩

end Go.Proofs.Ytikbkcidalippaa
