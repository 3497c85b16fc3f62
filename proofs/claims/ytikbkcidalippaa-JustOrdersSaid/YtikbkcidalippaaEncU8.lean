/-
  A state's encoding: each of its cells is a byte; it is told by the cells off the slices and by what the slices read as. Plain.
-/
import Derived.Test.YtikbkcidalippaaEncDef
import Derived.Test.YtikbkcidalippaaWeighs
namespace Go.Proofs.Ytikbkcidalippaa
open Go.RowKit
set_option maxRecDepth 100000

def u8L (l : List Value) : Prop := ∀ u ∈ l, ∃ n, u = .int .u8 n
theorem u8_nil : u8L [] := fun _ h => nomatch h
theorem u8_app {a b : List Value} (h1 : u8L a) (h2 : u8L b) : u8L (a ++ b) := by
  intro u hu
  rcases List.mem_append.1 hu with hu | hu
  · exact h1 u hu
  · exact h2 u hu
theorem u8_num8 (n : Int) : u8L (num8 n) := by
  intro u hu
  obtain ⟨k, -, rfl⟩ := List.mem_map.1 hu
  exact ⟨_, rfl⟩
theorem u8_flag (b : Bool) : u8L (flag1 b) := by
  intro u hu
  simp only [flag1, List.mem_cons, List.not_mem_nil, or_false] at hu
  exact ⟨_, hu⟩
theorem u8_four (n : Int) : u8L (fourB n) := by
  intro u hu
  simp only [fourB, List.mem_cons, List.not_mem_nil, or_false] at hu
  rcases hu with rfl | rfl | rfl | rfl <;> exact ⟨_, rfl⟩
theorem u8_vec (b : Nat → Bool) : u8L (vec4 b) := by
  intro u hu
  simp only [vec4, List.mem_cons, List.not_mem_nil, or_false] at hu
  exact ⟨_, hu⟩
theorem u8_ext {cs : Array Value} (a m : Nat) (h : ∀ i v, a ≤ i → i < a + m → cs[i]? = some v → CK.u8.ok v) : u8L (cs.extract a (a + m)).toList := by
  intro u hu
  obtain ⟨j, hj, rfl⟩ := List.mem_iff_getElem.1 hu
  have e : (cs.extract a (a + m)).toList[j]? = some ((cs.extract a (a + m)).toList[j]) := List.getElem?_eq_getElem hj
  rw [Array.getElem?_toList] at e
  obtain ⟨e, hl⟩ := get_ext e
  obtain ⟨n, hn, -⟩ := CK.ok_u8 (h (a + j) _ (by omega) (by omega) e)
  exact ⟨n, hn⟩
theorem u8_list {l : List Value} (h : ∀ (j : Nat) u, l[j]? = some u → CK.u8.ok u) : u8L l := by
  intro u hu
  obtain ⟨j, hj, rfl⟩ := List.mem_iff_getElem.1 hu
  obtain ⟨n, hn, -⟩ := CK.ok_u8 (h j _ (List.getElem?_eq_getElem hj))
  exact ⟨n, hn⟩
theorem encFork_u8 {c : Array Value} (x : Int) (h : ∀ i v, i < 8 → c[i]? = some v → CK.u8.ok v) : u8L (encFork c x) :=
  u8_app (u8_app (u8_ext 0 4 fun i v _ h2 => h i v (by omega)) (u8_ext 4 4 fun i v _ h2 => h i v (by omega))) (u8_num8 _)
theorem encHead_u8 {c : Array Value} (x y : Int) (h : ∀ i v, 2 ≤ i → i < 98 → c[i]? = some v → CK.u8.ok v) : u8L (encHead c x y) :=
  u8_app (u8_app (u8_app (u8_app (u8_num8 _) (u8_num8 _)) (u8_ext 2 32 fun i v h1 h2 => h i v (by omega) (by omega))) (u8_ext 34 32 fun i v h1 h2 => h i v (by omega) (by omega))) (u8_ext 66 32 fun i v h1 h2 => h i v (by omega) (by omega))
theorem encEth1_u8 {c : Array Value} (x : Int) (h : ∀ i v, i ≠ 32 → i < 65 → c[i]? = some v → CK.u8.ok v) : u8L (encEth1 c x) :=
  u8_app (u8_app (u8_ext 0 32 fun i v h1 h2 => h i v (by omega) (by omega)) (u8_num8 _)) (u8_ext 33 32 fun i v h1 h2 => h i v (by omega) (by omega))
theorem encChk_u8 {c : Array Value} (x : Int) (h : ∀ i v, 1 ≤ i → i < 33 → c[i]? = some v → CK.u8.ok v) : u8L (encChk c x) :=
  u8_app (u8_num8 _) (u8_ext 1 32 fun i v h1 h2 => h i v (by omega) (by omega))
theorem encVal_u8 {c : Array Value} (x2 x4 x5 x6 x7 : Int) (x3 : Bool) (h : ∀ i v, i < 80 → c[i]? = some v → CK.u8.ok v) : u8L (encVal c x2 x4 x5 x6 x7 x3) := by
  unfold encVal
  refine u8_app (u8_app (u8_app (u8_app (u8_app (u8_app (u8_app ?_ ?_) ?_) ?_) ?_) ?_) ?_) ?_
  · exact u8_ext 0 48 fun i v _ h2 => h i v (by omega)
  · exact u8_ext 48 32 fun i v _ h2 => h i v (by omega)
  · exact u8_num8 _
  · exact u8_flag _
  · exact u8_num8 _
  · exact u8_num8 _
  · exact u8_num8 _
  · exact u8_num8 _
theorem numsTo_u8 {l : List Value} : ∀ n, u8L (numsTo l n)
  | 0 => u8_nil
  | n + 1 => u8_app (numsTo_u8 n) (u8_num8 _)
theorem slashTo_u8 {cs : Array Value} : ∀ n, u8L (slashTo cs n)
  | 0 => u8_nil
  | n + 1 => u8_app (slashTo_u8 n) (u8_num8 _)
theorem chunk_of {l : List Value} {i n j : Nat} {v : Value} (h : ((l.drop i).take n).toArray[j]? = some v) : l[i + j]? = some v ∧ j < n := by
  rw [List.getElem?_toArray, List.getElem?_take] at h
  split at h
  · rw [List.getElem?_drop] at h
    exact ⟨h, by assumption⟩
  · cases h
theorem votesTo_u8 {l : List Value} (h : ∀ (j : Nat) u, l[j]? = some u → (ek 719 j).ok u) : ∀ n, u8L (votesTo l n)
  | 0 => u8_nil
  | n + 1 => u8_app (votesTo_u8 h n) (encEth1_u8 _ fun i v h1 h2 hv => by
    have t := h _ _ (chunk_of hv).1
    unfold ek at t
    rwa [if_neg (by decide), if_pos rfl, if_neg (by omega)] at t)
theorem valsTo_u8 {l : List Value} (h : ∀ (j : Nat) u, l[j]? = some u → (ek 721 j).ok u) : ∀ n, u8L (valsTo l n)
  | 0 => u8_nil
  | n + 1 => u8_app (valsTo_u8 h n) (encVal_u8 _ _ _ _ _ _ fun i v h1 hv => by
    have t := h _ _ (chunk_of hv).1
    unfold ek at t
    rwa [if_neg (by decide), if_neg (by decide), if_pos rfl, if_pos (by omega)] at t)

theorem ck_u8 {i : Nat} (h1 : i ≠ 653 ∧ i ≠ 719 ∧ i ≠ 721 ∧ i ≠ 722 ∧ i ≠ 987 ∧ i ≠ 988 ∧ i ≠ 1092) (h2 : ¬ (989 ≤ i ∧ i < 993)) (h3 : i ≠ 0 ∧ i ≠ 33 ∧ i ≠ 42 ∧ i ≠ 43 ∧ i ≠ 44 ∧ i ≠ 686 ∧ i ≠ 720 ∧ ¬ (979 ≤ i ∧ i < 987) ∧ i ≠ 993 ∧ i ≠ 1026 ∧ i ≠ 1059) : ck i = .u8 := by
  unfold ck
  rw [if_neg (by omega), if_neg (by omega), if_neg (by omega)]
theorem WfC.at8 {cs : Array Value} (h : WfC cs) {i : Nat} {v : Value} (hv : cs[i]? = some v) (h1 : i ≠ 653 ∧ i ≠ 719 ∧ i ≠ 721 ∧ i ≠ 722 ∧ i ≠ 987 ∧ i ≠ 988 ∧ i ≠ 1092) (h2 : ¬ (989 ≤ i ∧ i < 993)) (h3 : i ≠ 0 ∧ i ≠ 33 ∧ i ≠ 42 ∧ i ≠ 43 ∧ i ≠ 44 ∧ i ≠ 686 ∧ i ≠ 720 ∧ ¬ (979 ≤ i ∧ i < 987) ∧ i ≠ 993 ∧ i ≠ 1026 ∧ i ≠ 1059) : CK.u8.ok v := by
  have t := h.kind i v hv
  rwa [ck_u8 h1 h2 h3] at t
/-- Each cell of each part is a byte. -/
theorem encP_u8 {w : World} {B : Nat} {cs : Array Value} {L : Nat → List Value} (H : IsSt w B cs L) : ∀ j, j < 24 → u8L (encP cs L j) := by
  intro j hj
  have h := H.wf
  match j, hj with
  | 0, _ => exact u8_num8 _
  | 1, _ => exact u8_ext 1 32 fun i v h1 h2 hv => h.at8 hv (by omega) (by omega) (by omega)
  | 2, _ => exact u8_num8 _
  | 3, _ => exact encFork_u8 _ fun i v h1 hv => h.at8 (get_ext hv).1 (by omega) (by omega) (by omega)
  | 4, _ => exact encHead_u8 _ _ fun i v h1 h2 hv => h.at8 (get_ext hv).1 (by omega) (by omega) (by omega)
  | 5, _ => exact u8_ext 141 256 fun i v h1 h2 hv => h.at8 hv (by omega) (by omega) (by omega)
  | 6, _ => exact u8_ext 397 256 fun i v h1 h2 hv => h.at8 hv (by omega) (by omega) (by omega)
  | 7, _ => exact u8_list fun j u hu => by have t := H.el 653 (by decide) j u hu; exact t
  | 8, _ => exact encEth1_u8 _ fun i v h1 h2 hv => h.at8 (get_ext hv).1 (by omega) (by omega) (by omega)
  | 9, _ => exact votesTo_u8 (H.el 719 (by decide)) _
  | 10, _ => exact u8_num8 _
  | 11, _ => exact valsTo_u8 (H.el 721 (by decide)) _
  | 12, _ => exact numsTo_u8 _
  | 13, _ => exact u8_ext 723 256 fun i v h1 h2 hv => h.at8 hv (by omega) (by omega) (by omega)
  | 14, _ => exact slashTo_u8 _
  | 15, _ => exact u8_list fun j u hu => by have t := H.el 987 (by decide) j u hu; exact t
  | 16, _ => exact u8_list fun j u hu => by have t := H.el 988 (by decide) j u hu; exact t
  | 17, _ => exact u8_vec _
  | 18, _ => exact encChk_u8 _ fun i v h1 h2 hv => h.at8 (get_ext hv).1 (by omega) (by omega) (by omega)
  | 19, _ => exact encChk_u8 _ fun i v h1 h2 hv => h.at8 (get_ext hv).1 (by omega) (by omega) (by omega)
  | 20, _ => exact encChk_u8 _ fun i v h1 h2 hv => h.at8 (get_ext hv).1 (by omega) (by omega) (by omega)
  | 21, _ => exact numsTo_u8 _
  | 22, _ => exact u8_ext 1093 432 fun i v h1 h2 hv => h.at8 hv (by omega) (by omega) (by omega)
  | 23, _ => exact u8_ext 1525 432 fun i v h1 h2 hv => h.at8 hv (by omega) (by omega) (by omega)
  | n + 24, hn => exact absurd hn (by omega)
theorem layR_u8 {P : Nat → List Value} {S : Nat → Nat} : ∀ n, (∀ j, j < n → u8L (P j)) → u8L (layR P S n)
  | 0, _ => u8_nil
  | n + 1, h => by
    unfold layR
    split
    · exact u8_app (layR_u8 n fun j hj => h j (by omega)) (h n (by omega))
    · exact layR_u8 n fun j hj => h j (by omega)
theorem layO_u8 {k : Nat} {P : Nat → List Value} {S : Nat → Nat} : ∀ n, (∀ j, j < n → u8L (P j)) → u8L (layO k P S n)
  | 0, _ => u8_nil
  | n + 1, h => by
    unfold layO
    split
    · exact u8_app (layO_u8 n fun j hj => h j (by omega)) (u8_four _)
    · exact u8_app (layO_u8 n fun j hj => h j (by omega)) (h n (by omega))
/-- Each cell of a state's encoding is a byte. -/
theorem encB_u8 {w : World} {B : Nat} {cs : Array Value} {L : Nat → List Value} (H : IsSt w B cs L) : u8L (encB cs L) :=
  u8_app (layO_u8 24 (encP_u8 H)) (layR_u8 24 (encP_u8 H))

theorem ext_congr {cs cs' : Array Value} (hs : cs.size = cs'.size) (a b : Nat) (h : ∀ i, a ≤ i → i < b → cs[i]? = cs'[i]?) : cs.extract a b = cs'.extract a b := by
  apply Array.ext_getElem?
  intro i
  rw [Array.getElem?_extract, Array.getElem?_extract, hs]
  split
  · exact h _ (by omega) (by omega)
  · rfl
theorem slashTo_congr {cs cs' : Array Value} : ∀ n, n ≤ 8 → (∀ i, 979 ≤ i → i < 987 → cs[i]? = cs'[i]?) → slashTo cs n = slashTo cs' n
  | 0, _, _ => rfl
  | n + 1, hn, h => by
    unfold slashTo
    rw [slashTo_congr n (by omega) h, cN_eq (h (979 + n) (by omega) (by omega))]
/-- The encoding is told by the cells off the slices and by what the slices read as. -/
theorem encB_congr {cs cs' : Array Value} {L : Nat → List Value} (hs : cs.size = cs'.size) (h : ∀ i, ¬ isSO i → cs[i]? = cs'[i]?) : encB cs L = encB cs' L := by
  have hx : ∀ a b, (∀ i, a ≤ i → i < b → ¬ isSO i) → cs.extract a b = cs'.extract a b := fun a b hh => ext_congr hs a b fun i h1 h2 => h i (hh i h1 h2)
  have hn : ∀ i, ¬ isSO i → cN cs i = cN cs' i := fun i hi => cN_eq (h i hi)
  unfold encB
  refine layB_congr fun j hj => ⟨?_, rfl⟩
  match j, hj with
  | 0, _ => show num8 _ = num8 _; rw [hn 0 (by decide)]
  | 1, _ => show (cs.extract 1 (1 + 32)).toList = _; rw [hx 1 (1 + 32) (fun i _ _ => by unfold isSO; omega)]; rfl
  | 2, _ => show num8 _ = num8 _; rw [hn 33 (by decide)]
  | 3, _ => show encFork (cs.extract 34 (34 + 9)) _ = encFork _ _; rw [hx 34 (34 + 9) (fun i _ _ => by unfold isSO; omega), hn 42 (by decide)]
  | 4, _ => show encHead (cs.extract 43 (43 + 98)) _ _ = encHead _ _ _; rw [hx 43 (43 + 98) (fun i _ _ => by unfold isSO; omega), hn 43 (by decide), hn 44 (by decide)]
  | 5, _ => show (cs.extract 141 (141 + 256)).toList = _; rw [hx 141 (141 + 256) (fun i _ _ => by unfold isSO; omega)]; rfl
  | 6, _ => show (cs.extract 397 (397 + 256)).toList = _; rw [hx 397 (397 + 256) (fun i _ _ => by unfold isSO; omega)]; rfl
  | 7, _ => rfl
  | 8, _ => show encEth1 (cs.extract 654 (654 + 65)) _ = encEth1 _ _; rw [hx 654 (654 + 65) (fun i _ _ => by unfold isSO; omega), hn 686 (by decide)]
  | 9, _ => rfl
  | 10, _ => show num8 _ = num8 _; rw [hn 720 (by decide)]
  | 11, _ => rfl
  | 12, _ => rfl
  | 13, _ => show (cs.extract 723 (723 + 256)).toList = _; rw [hx 723 (723 + 256) (fun i _ _ => by unfold isSO; omega)]; rfl
  | 14, _ => exact slashTo_congr 8 (Nat.le_refl _) fun i h1 h2 => h i (by unfold isSO; omega)
  | 15, _ => rfl
  | 16, _ => rfl
  | 17, _ =>
    show vec4 (fun i => cB cs (989 + i)) = vec4 (fun i => cB cs' (989 + i))
    have e : ∀ i, i < 4 → cB cs (989 + i) = cB cs' (989 + i) := fun i hi => cB_eq (h (989 + i) (by unfold isSO; omega))
    simp only [vec4, vecTo, e 0 (by decide), e 1 (by decide), e 2 (by decide), e 3 (by decide)]
  | 18, _ => show encChk (cs.extract 993 (993 + 33)) _ = encChk _ _; rw [hx 993 (993 + 33) (fun i _ _ => by unfold isSO; omega), hn 993 (by decide)]
  | 19, _ => show encChk (cs.extract 1026 (1026 + 33)) _ = encChk _ _; rw [hx 1026 (1026 + 33) (fun i _ _ => by unfold isSO; omega), hn 1026 (by decide)]
  | 20, _ => show encChk (cs.extract 1059 (1059 + 33)) _ = encChk _ _; rw [hx 1059 (1059 + 33) (fun i _ _ => by unfold isSO; omega), hn 1059 (by decide)]
  | 21, _ => rfl
  | 22, _ => show (cs.extract 1093 (1093 + 432)).toList = _; rw [hx 1093 (1093 + 432) (fun i _ _ => by unfold isSO; omega)]; rfl
  | 23, _ => show (cs.extract 1525 (1525 + 432)).toList = _; rw [hx 1525 (1525 + 432) (fun i _ _ => by unfold isSO; omega)]; rfl
  | n + 24, hn => exact absurd hn (by omega)
end Go.Proofs.Ytikbkcidalippaa
