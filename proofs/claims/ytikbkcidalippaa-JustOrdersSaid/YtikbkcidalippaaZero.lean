/-
  The zero state: its cells.
-/
import Derived.Test.YtikbkcidalippaaLook
namespace Go.Proofs.Ytikbkcidalippaa
open Go.RowKit
set_option maxRecDepth 100000

/-- The zero of a kind. -/
def CK.zero : CK → Value
  | .u64 => .int .u64 0
  | .u8 => .int .u8 0
  | .bool => .bool false
  | .slice => .slice none 0 0
def isZ : CK → Value → Bool
  | .u64, .int .u64 0 => true
  | .u8, .int .u8 0 => true
  | .bool, .bool false => true
  | .slice, .slice none 0 0 => true
  | _, _ => false
theorem isZ_eq {k : CK} {v : Value} (h : isZ k v = true) : v = k.zero := by
  unfold isZ at h
  split at h <;> first | rfl | cases h
def chkZ : Nat → List Value → Bool
  | _, [] => true
  | i, v :: r => isZ (ck i) v && chkZ (i + 1) r
theorem chkZ_get : ∀ (l : List Value) (o i : Nat) (v : Value), chkZ o l = true → l[i]? = some v → v = (ck (o + i)).zero
  | u0 :: r, o, 0, u, h, hu => by
    simp only [chkZ, Bool.and_eq_true] at h
    simp only [List.getElem?_cons_zero, Option.some.injEq] at hu
    subst hu
    exact isZ_eq h.1
  | u0 :: r, o, i + 1, u, h, hu => by
    simp only [chkZ, Bool.and_eq_true] at h
    simp only [List.getElem?_cons_succ] at hu
    have := chkZ_get r (o + 1) i u h.2 hu
    rw [this, show o + 1 + i = o + (i + 1) by omega]
  | [], _, _, _, _, hu => by simp at hu
/-- The zero state's cells. -/
noncomputable def zst : Array Value := zc Try.prog 49
theorem zst_chk : chkZ 0 zst.toList = true := by kernel_rfl
theorem zst_size : zst.size = 1957 := szzState
theorem zst_get {i : Nat} (hi : i < 1957) : zst[i]? = some (ck i).zero := by
  have hl : i < zst.size := by rw [zst_size]; exact hi
  have e : zst.toList[i]? = some zst[i] := by rw [Array.getElem?_toList, Array.getElem?_eq_getElem hl]
  have := chkZ_get zst.toList 0 i _ zst_chk e
  rw [Nat.zero_add] at this
  rw [Array.getElem?_eq_getElem hl, this]
theorem CK.zero_ok (k : CK) : k.ok k.zero := by cases k <;> simp [CK.ok, CK.zero, W64, W8]
theorem zst_wf : WfC zst := ⟨zst_size, fun i v h => by
  have hi : i < 1957 := by rw [← zst_size]; exact (Array.getElem?_eq_some_iff.1 h).1
  rw [zst_get hi] at h
  rw [← Option.some.inj h]
  exact CK.zero_ok _⟩
theorem zst_num {i : Nat} (hi : i < 1957) : cN zst i = 0 := by
  unfold cN; rw [zst_get hi]
  cases ck i <;> rfl
theorem zst_bool {i : Nat} (hi : i < 1957) : cB zst i = false := by
  unfold cB; rw [zst_get hi]
  cases ck i <;> rfl
/-- With nothing behind its slices. -/
theorem zst_like {w : World} {B : Nat} {cs : Array Value} (h : WfC cs) (hk : ∀ k, isSO k → cs[k]? = some (.slice none 0 0)) : IsSt w B cs (fun _ => []) :=
  ⟨h, fun k hk' => ⟨none, 0, 0, hk k hk', ⟨by simp, Nat.le_refl _, by decide, by simp, fun _ => ⟨rfl, rfl⟩, fun h => absurd h (by omega)⟩⟩, fun k hk j u hu => by simp at hu⟩
theorem ck_slice {k : Nat} (h : isSO k) : ck k = .slice := by
  unfold isSO at h
  unfold ck
  rw [if_pos h]
theorem zst_is (w : World) (B : Nat) : IsSt w B zst (fun _ => []) :=
  zst_like zst_wf fun k hk => by
    have hi : k < 1957 := by rcases hk with rfl | rfl | rfl | rfl | rfl | rfl | rfl <;> decide
    rw [zst_get hi, ck_slice hk]; rfl
theorem built_zst : Try.prog.built 49 [] = some zst := by
  have hz : ((Try.prog.info? 49).bind (·.zero)).isSome = true := by kernel_rfl
  rw [built_struct hz Try.underlying49 (places := [(0, 1), (1, 32), (33, 1), (34, 9), (43, 98), (141, 256), (397, 256), (653, 1), (654, 65), (719, 1), (720, 1), (721, 1), (722, 1), (723, 256), (979, 8), (987, 1), (988, 1), (989, 4), (993, 33), (1026, 33), (1059, 33), (1092, 1), (1093, 432), (1525, 432)]) (by kernel_rfl), fill_nil]
  rfl

end Go.Proofs.Ytikbkcidalippaa
