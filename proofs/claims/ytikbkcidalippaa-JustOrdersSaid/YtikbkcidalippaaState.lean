/-
  The cells of a state: which kind each has, what its seven slices read as; what makes a state right. Plain Lean: no program in sight.
-/
import Derived.Test.YtikbkcidalippaaLaws
namespace Go.Proofs.Ytikbkcidalippaa
open Go.RowKit

/-- The kind of one cell. -/
inductive CK where
  | u64 | u8 | bool | slice
  deriving DecidableEq

/-- A word, a byte. -/
def W64 (n : Int) : Prop := 0 ≤ n ∧ n < 18446744073709551616
def W8 (n : Int) : Prop := 0 ≤ n ∧ n < 256

def CK.ok : CK → Value → Prop
  | .u64, .int .u64 n => W64 n
  | .u8, .int .u8 n => W8 n
  | .bool, .bool _ => True
  | .slice, .slice _ _ _ => True
  | _, _ => False

/-- The kind of cell i of a state. -/
def ck (i : Nat) : CK :=
  if i = 653 ∨ i = 719 ∨ i = 721 ∨ i = 722 ∨ i = 987 ∨ i = 988 ∨ i = 1092 then .slice
  else if 989 ≤ i ∧ i < 993 then .bool
  else if i = 0 ∨ i = 33 ∨ i = 42 ∨ i = 43 ∨ i = 44 ∨ i = 686 ∨ i = 720 ∨ 979 ≤ i ∧ i < 987 ∨ i = 993 ∨ i = 1026 ∨ i = 1059 then .u64
  else .u8

/-- The seven cells that hold slices. -/
def isSO (i : Nat) : Prop := i = 653 ∨ i = 719 ∨ i = 721 ∨ i = 722 ∨ i = 987 ∨ i = 988 ∨ i = 1092
instance (i : Nat) : Decidable (isSO i) := by unfold isSO; infer_instance

/-- The kind of cell j of the elements behind slice k. -/
def ek (k j : Nat) : CK :=
  if k = 653 ∨ k = 987 ∨ k = 988 then .u8
  else if k = 719 then (if j % 65 = 32 then .u64 else .u8)
  else if k = 721 then (if j % 86 < 80 then .u8 else if j % 86 = 81 then .bool else .u64)
  else .u64

/-- How many cells, how many bytes an element behind slice k has. -/
def esz (k : Nat) : Nat := if k = 653 then 32 else if k = 719 then 65 else if k = 721 then 86 else 1
def eby (k : Nat) : Nat := if k = 653 then 32 else if k = 719 then 72 else if k = 721 then 128 else if k = 987 ∨ k = 988 then 1 else 8

/-- The number, the truth in a cell. -/
def numOf : Option Value → Int
  | some (.int _ n) => n
  | _ => 0
def truOf : Option Value → Bool
  | some (.bool b) => b
  | _ => false
def cN (cs : Array Value) (i : Nat) : Int := numOf cs[i]?
def cB (cs : Array Value) (i : Nat) : Bool := truOf cs[i]?
def lN (l : List Value) (j : Nat) : Int := numOf l[j]?
def lB (l : List Value) (j : Nat) : Bool := truOf l[j]?

/-- A state's cells, each of its kind. -/
structure WfC (cs : Array Value) : Prop where
  size : cs.size = 1957
  kind : ∀ i v, cs[i]? = some v → (ck i).ok v

theorem CK.ok_u64 {v : Value} (h : CK.u64.ok v) : ∃ n, v = .int .u64 n ∧ W64 n := by
  cases v <;> simp only [CK.ok] at h
  case int k n => cases k <;> first | exact h.elim | exact ⟨n, rfl, h⟩
theorem CK.ok_u8 {v : Value} (h : CK.u8.ok v) : ∃ n, v = .int .u8 n ∧ W8 n := by
  cases v <;> simp only [CK.ok] at h
  case int k n => cases k <;> first | exact h.elim | exact ⟨n, rfl, h⟩
theorem CK.ok_bool {v : Value} (h : CK.bool.ok v) : ∃ b, v = .bool b := by
  cases v <;> simp only [CK.ok] at h
  case bool b => exact ⟨b, rfl⟩
theorem CK.ok_slice {v : Value} (h : CK.slice.ok v) : ∃ a n c, v = .slice a n c := by
  cases v <;> simp only [CK.ok] at h
  case slice a n c => exact ⟨a, n, c, rfl⟩
theorem CK.ok_one {k : CK} {v : Value} (h : k.ok v) : v.oneCell' = true := by
  cases k
  · obtain ⟨n, rfl, _⟩ := CK.ok_u64 h; rfl
  · obtain ⟨n, rfl, _⟩ := CK.ok_u8 h; rfl
  · obtain ⟨n, rfl⟩ := CK.ok_bool h; rfl
  · obtain ⟨a, n, c, rfl⟩ := CK.ok_slice h; rfl

section
variable {cs : Array Value} (h : WfC cs)
include h
theorem WfC.u64 (i : Nat) (hk : ck i = .u64) (hi : i < 1957 := by decide) : cs[i]? = some (.int .u64 (cN cs i)) ∧ W64 (cN cs i) := by
  have hi' : i < cs.size := by rw [h.size]; exact hi
  have hv := h.kind i _ (Array.getElem?_eq_getElem hi')
  rw [hk] at hv
  obtain ⟨n, hn, hw⟩ := CK.ok_u64 hv
  have e : cs[i]? = some (.int .u64 n) := by rw [Array.getElem?_eq_getElem hi', hn]
  have e2 : cN cs i = n := by unfold cN; rw [e]; rfl
  rw [e2]; exact ⟨e, hw⟩
theorem WfC.u8 (i : Nat) (hk : ck i = .u8) (hi : i < 1957 := by decide) : cs[i]? = some (.int .u8 (cN cs i)) ∧ W8 (cN cs i) := by
  have hi' : i < cs.size := by rw [h.size]; exact hi
  have hv := h.kind i _ (Array.getElem?_eq_getElem hi')
  rw [hk] at hv
  obtain ⟨n, hn, hw⟩ := CK.ok_u8 hv
  have e : cs[i]? = some (.int .u8 n) := by rw [Array.getElem?_eq_getElem hi', hn]
  have e2 : cN cs i = n := by unfold cN; rw [e]; rfl
  rw [e2]; exact ⟨e, hw⟩
theorem WfC.bool (i : Nat) (hk : ck i = .bool) (hi : i < 1957 := by decide) : cs[i]? = some (.bool (cB cs i)) := by
  have hi' : i < cs.size := by rw [h.size]; exact hi
  have hv := h.kind i _ (Array.getElem?_eq_getElem hi')
  rw [hk] at hv
  obtain ⟨b, hn⟩ := CK.ok_bool hv
  have e : cs[i]? = some (.bool b) := by rw [Array.getElem?_eq_getElem hi', hn]
  have e2 : cB cs i = b := by unfold cB; rw [e]; rfl
  rw [e2]; exact e
theorem WfC.slice (i : Nat) (hk : ck i = .slice) (hi : i < 1957 := by decide) : ∃ a n c, cs[i]? = some (.slice a n c) := by
  have hi' : i < cs.size := by rw [h.size]; exact hi
  have hv := h.kind i _ (Array.getElem?_eq_getElem hi')
  rw [hk] at hv
  obtain ⟨a, n, c, hn⟩ := CK.ok_slice hv
  exact ⟨a, n, c, by rw [Array.getElem?_eq_getElem hi', hn]⟩
theorem WfC.ones : cs.all (·.oneCell') = true := by
  rw [Array.all_eq_true_iff_forall_mem]
  intro v hv
  obtain ⟨i, hi, e⟩ := Array.mem_iff_getElem.1 hv
  exact CK.ok_one (h.kind i v (by rw [Array.getElem?_eq_getElem hi, e]))
end

theorem ones_extract {cs : Array Value} (h : cs.all (·.oneCell') = true) (a b : Nat) : (cs.extract a b).all (·.oneCell') = true := by
  rw [Array.all_eq_true_iff_forall_mem] at h ⊢
  intro v hv
  obtain ⟨i, hi, e⟩ := Array.mem_iff_getElem.1 hv
  rw [Array.getElem_extract] at e
  exact h v (e ▸ Array.getElem_mem _)
theorem size_extract_of {cs : Array Value} {o n : Nat} (h : o + n ≤ cs.size) : (cs.extract o (o + n)).size = n := by simp; omega

/-- The cells behind a slice value: xs, in a block below B (or none); they take at most the reach. -/
structure SlR (w : World) (B size bytes : Nat) (a : Option Addr) (n c : Nat) (xs : List Value) : Prop where
  len : xs.length = n * size
  le : n ≤ c
  max : c ≤ 9223372036854775807
  reach : n * bytes ≤ 140737488351232
  nil : a = none → n = 0 ∧ c = 0
  cells : 0 < n → ∃ b o, a = some ⟨b, o, none⟩ ∧ b < B ∧ ∀ j u, xs[j]? = some u → w.cell? ⟨b, o + j, none⟩ = some u

section
variable {w w' : World} {B B' size bytes n c : Nat} {a : Option Addr} {xs : List Value}
theorem SlR.nil_ : SlR w B size bytes none 0 0 [] := ⟨by simp, Nat.le_refl _, by decide, by simp, fun _ => ⟨rfl, rfl⟩, fun h => absurd h (by omega)⟩
theorem SlR.keep (h : SlR w B size bytes a n c xs) (hk : ∀ p : Addr, p.block < B → w'.cell? p = w.cell? p) : SlR w' B size bytes a n c xs :=
  ⟨h.len, h.le, h.max, h.reach, h.nil, fun hn => by
    obtain ⟨b, o, e, hb, hc⟩ := h.cells hn
    exact ⟨b, o, e, hb, fun j u hu => (hk ⟨b, o + j, none⟩ hb).trans (hc j u hu)⟩⟩
theorem SlR.more (h : SlR w B size bytes a n c xs) (hB : B ≤ B') : SlR w B' size bytes a n c xs :=
  ⟨h.len, h.le, h.max, h.reach, h.nil, fun hn => by
    obtain ⟨b, o, e, hb, hc⟩ := h.cells hn
    exact ⟨b, o, e, by omega, hc⟩⟩
theorem SlR.below (h : SlR w B size bytes a n c xs) (hb : Below B w w') : SlR w' B size bytes a n c xs := h.keep fun _ hp => hb.cell hp
theorem SlR.alloc (h : SlR w B size bytes a n c xs) (hB : B ≤ w.heap.size) (o : Obj) : SlR (w.alloc o) B size bytes a n c xs := h.keep fun p hp => World.cell?_alloc_lt w o p (by omega)
theorem SlR.drew (h : SlR w B size bytes a n c xs) : SlR w.drew B size bytes a n c xs := h.keep fun _ _ => rfl
theorem SlR.drewN (h : SlR w B size bytes a n c xs) (k : Nat) : SlR (w.drewN k) B size bytes a n c xs := h.keep fun _ _ => rfl
/-- What the call owns reads so. -/
theorem SlR.own {base : Nat} {e : TypeId} (h : w.ownsRow base e size (.slice a n c) n xs) (hr : n * bytes ≤ 140737488351232) : SlR w w.heap.size size bytes a n c xs := by
  obtain ⟨hl, h⟩ := h
  rcases h with ⟨hv, rfl⟩ | ⟨g, cap, cur, hv, hg, hh, hle, hm, hc, ht⟩
  · simp only [Value.slice.injEq] at hv
    obtain ⟨rfl, -, rfl⟩ := hv
    exact ⟨hl, Nat.le_refl _, by decide, by simp, fun _ => ⟨rfl, rfl⟩, fun h => absurd h (by omega)⟩
  · simp only [Value.slice.injEq, true_and] at hv
    obtain ⟨rfl, rfl⟩ := hv
    have hlt : g < w.heap.size := Blk.lt (w := w) (g := g) hh
    refine ⟨hl, hle, hm, hr, fun h => by (cases h), fun _ => ⟨g, 0, rfl, hlt, fun j u hu => ?_⟩⟩
    have hj : j < n * size := by rw [← hl]; exact (List.getElem?_eq_some_iff.1 hu).1
    rw [Nat.zero_add, cell_of_row w g j cur e (0, 0) hh, ← hu, ← ht, List.getElem?_take, if_pos hj]
    simp
end

theorem SlR.range {w : World} {B size bytes n c k : Nat} {a : Option Addr} {xs : List Value} (h : SlR w B size bytes a n c xs) (hk : k < n) :
    ∃ b o, a = some ⟨b, o, none⟩ ∧ b < B ∧ w.rangeAt b (o + k * size) ((xs.drop (k * size)).take size) ∧ ((xs.drop (k * size)).take size).length = size := by
  obtain ⟨b, o, e, hb, hc⟩ := h.cells (by omega)
  refine ⟨b, o, e, hb, fun j v hv => ?_, ?_⟩
  · rw [List.getElem?_take] at hv
    split at hv
    · rw [List.getElem?_drop] at hv
      rw [Nat.add_assoc]
      exact hc _ v hv
    · cases hv
  · have h1 := h.len
    have h2 : k * size + size ≤ n * size := by rw [← Nat.succ_mul]; exact Nat.mul_le_mul_right _ hk
    simp; omega

/-- The cells cs are a state's, its slices read as L tells, all below B. -/
structure IsSt (w : World) (B : Nat) (cs : Array Value) (L : Nat → List Value) : Prop where
  wf : WfC cs
  sl : ∀ k, isSO k → ∃ a n c, cs[k]? = some (.slice a n c) ∧ SlR w B (esz k) (eby k) a n c (L k)
  el : ∀ k, isSO k → ∀ j u, (L k)[j]? = some u → (ek k j).ok u

section
variable {w w' : World} {B B' : Nat} {cs : Array Value} {L : Nat → List Value}
theorem IsSt.keep (h : IsSt w B cs L) (hk : ∀ p : Addr, p.block < B → w'.cell? p = w.cell? p) : IsSt w' B cs L :=
  ⟨h.wf, fun k hk' => let ⟨a, n, c, e, s⟩ := h.sl k hk'; ⟨a, n, c, e, s.keep hk⟩, h.el⟩
theorem IsSt.more (h : IsSt w B cs L) (hB : B ≤ B') : IsSt w B' cs L :=
  ⟨h.wf, fun k hk' => let ⟨a, n, c, e, s⟩ := h.sl k hk'; ⟨a, n, c, e, s.more hB⟩, h.el⟩
theorem IsSt.below (h : IsSt w B cs L) (hb : Below B w w') : IsSt w' B cs L := h.keep fun _ hp => hb.cell hp

theorem IsSt.eN (h : IsSt w B cs L) (k j : Nat) (hk : isSO k) (he : ek k j = .u64) (hj : j < (L k).length) : (L k)[j]? = some (.int .u64 (lN (L k) j)) ∧ W64 (lN (L k) j) := by
  have hv := h.el k hk j _ (List.getElem?_eq_getElem hj)
  rw [he] at hv
  obtain ⟨n, hn, hw⟩ := CK.ok_u64 hv
  have e : (L k)[j]? = some (.int .u64 n) := by rw [List.getElem?_eq_getElem hj, hn]
  have e2 : lN (L k) j = n := by unfold lN; rw [e]; rfl
  rw [e2]; exact ⟨e, hw⟩
theorem IsSt.eN8 (h : IsSt w B cs L) (k j : Nat) (hk : isSO k) (he : ek k j = .u8) (hj : j < (L k).length) : (L k)[j]? = some (.int .u8 (lN (L k) j)) ∧ W8 (lN (L k) j) := by
  have hv := h.el k hk j _ (List.getElem?_eq_getElem hj)
  rw [he] at hv
  obtain ⟨n, hn, hw⟩ := CK.ok_u8 hv
  have e : (L k)[j]? = some (.int .u8 n) := by rw [List.getElem?_eq_getElem hj, hn]
  have e2 : lN (L k) j = n := by unfold lN; rw [e]; rfl
  rw [e2]; exact ⟨e, hw⟩
theorem IsSt.eB (h : IsSt w B cs L) (k j : Nat) (hk : isSO k) (he : ek k j = .bool) (hj : j < (L k).length) : (L k)[j]? = some (.bool (lB (L k) j)) := by
  have hv := h.el k hk j _ (List.getElem?_eq_getElem hj)
  rw [he] at hv
  obtain ⟨b, hn⟩ := CK.ok_bool hv
  have e : (L k)[j]? = some (.bool b) := by rw [List.getElem?_eq_getElem hj, hn]
  have e2 : lB (L k) j = b := by unfold lB; rw [e]; rfl
  rw [e2]; exact e
end

/-! ### What makes a state right -/
/-- An epoch that may be one of a validator. -/
def EpOK (n : Int) : Prop := n = 18446744073709551615 ∨ n < 2199023255552
/-- The validator i of the registry l. -/
def ValOK (l : List Value) (i : Nat) : Prop :=
  lN l (86 * i + 80) ≤ 32000000000 ∧ lN l (86 * i + 80) % 1000000000 = 0 ∧ EpOK (lN l (86 * i + 82)) ∧ EpOK (lN l (86 * i + 83)) ∧ EpOK (lN l (86 * i + 84)) ∧ EpOK (lN l (86 * i + 85))
/-- The sum of the numbers in cells. -/
def sumN : List Value → Int
  | [] => 0
  | v :: r => numOf (some v) + sumN r
/-- How many elements the slice k has. -/
def cnt (L : Nat → List Value) (k : Nat) : Nat := (L k).length / esz k
structure RightP (cs : Array Value) (L : Nat → List Value) : Prop where
  vals : cnt L 721 ≤ 65536
  bals : cnt L 722 = cnt L 721
  prev : cnt L 987 = cnt L 721
  cur : cnt L 988 = cnt L 721
  scores : cnt L 1092 = cnt L 721
  hist : cnt L 653 ≤ 1024
  votes : cnt L 719 ≤ 8
  slot : cN cs 33 < 1099511627776
  deps : cN cs 720 < 1099511627776
  head : cN cs 43 ≤ cN cs 33
  old : cN cs 993 ≤ cN cs 33 / 4
  just : cN cs 1026 ≤ cN cs 33 / 4
  fin : cN cs 1059 ≤ cN cs 33 / 4
  val : ∀ i, i < cnt L 721 → ValOK (L 721) i
  score : ∀ i, i < cnt L 721 → lN (L 1092) i ≤ 1099511627776
  few : sumN (L 722) ≤ 144115188075855872
  slash : sumN (cs.extract 979 987).toList ≤ 144115188075855872
open Classical in
noncomputable def rightB (cs : Array Value) (L : Nat → List Value) : Bool := decide (RightP cs L)
theorem rightB_yes {cs : Array Value} {L : Nat → List Value} (h : RightP cs L) : rightB cs L = true := by simp [rightB, h]
theorem rightB_no {cs : Array Value} {L : Nat → List Value} (h : ¬ RightP cs L) : rightB cs L = false := by simp [rightB, h]
theorem rightB_iff {cs : Array Value} {L : Nat → List Value} : rightB cs L = true ↔ RightP cs L := by simp [rightB]

theorem sumN_nonneg : ∀ l : List Value, (∀ (j : Nat) u, l[j]? = some u → CK.u64.ok u) → 0 ≤ sumN l
  | [], _ => Int.le_refl _
  | v :: r, h => by
    obtain ⟨n, rfl, hn⟩ := CK.ok_u64 (h 0 v rfl)
    have := sumN_nonneg r fun j u hu => h (j + 1) u (by simpa using hu)
    have h0 := hn.1
    show 0 ≤ n + sumN r
    omega
theorem sumN_append (a b : List Value) : sumN (a ++ b) = sumN a + sumN b := by
  induction a with
  | nil => simp [sumN]
  | cons v r ih => simp [sumN, ih]; omega
theorem sumN_take_succ (l : List Value) (k : Nat) (hk : k < l.length) : sumN (l.take (k + 1)) = sumN (l.take k) + lN l k := by
  rw [List.take_succ_eq_append_getElem hk, sumN_append]
  simp [sumN, lN, List.getElem?_eq_getElem hk]
theorem sumN_take_le (l : List Value) (h : ∀ (j : Nat) u, l[j]? = some u → CK.u64.ok u) (k : Nat) : sumN (l.take k) ≤ sumN l := by
  have e := sumN_append (l.take k) (l.drop k)
  rw [List.take_append_drop] at e
  have := sumN_nonneg (l.drop k) fun j u hu => h (k + j) u (by rw [← hu, List.getElem?_drop])
  omega

end Go.Proofs.Ytikbkcidalippaa
