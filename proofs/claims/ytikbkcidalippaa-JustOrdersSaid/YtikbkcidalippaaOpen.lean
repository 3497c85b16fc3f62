/-
  A state that comes in as an argument: its cells, what its slices read as: from the row's own reading of it.
-/
import Derived.Test.YtikbkcidalippaaLook
import Derived.Deep.Slices
import Derived.ChangeSame
import Derived.SizedLaws
import Derived.OpenShut
namespace Go.Proofs.Ytikbkcidalippaa
open Go.RowKit Go.ChangeShapes Go.WideShapes Go.Deep
set_option maxRecDepth 100000

/-- The kind that a type of one cell is of. -/
def kindOf : Option TypeDesc → Option CK
  | some (.int .u64) => some .u64
  | some (.int .u8) => some .u8
  | some .bool => some .bool
  | some (.slice _) => some .slice
  | _ => none
theorem kindOf_ok {P : Program} {w : World} {r : Reach} {b : Nat} {u : TypeId} {v : Value} {k : CK} (hk : kindOf (P.underlying u) = some k) (h : Cell.okWide P w r b u v) : k.ok v := by
  cases hd : P.underlying u with
  | none => simp [kindOf, hd] at hk
  | some d =>
    rw [hd] at hk
    unfold Cell.okWide at h
    rw [hd] at h
    cases d
    case int kk =>
      cases kk <;> simp only [kindOf, Option.some.injEq, reduceCtorEq] at hk
      all_goals
        subst hk
        have h' : Cell.ok P w r b u v := h
        unfold Cell.ok at h'
        rw [hd] at h'
        cases v
        case int k' n =>
          obtain ⟨rfl, h1, h2⟩ := h'
          simp only [CK.ok, W64, W8]
          simp only [IntKind.min, IntKind.max, IntKind.signed, IntKind.bits] at h1 h2
          constructor <;> simp at h1 h2 ⊢ <;> omega
        all_goals exact h'.elim
    case bool =>
      simp only [kindOf, Option.some.injEq] at hk
      subst hk
      have h' : Cell.ok P w r b u v := h
      unfold Cell.ok at h'
      rw [hd] at h'
      cases v
      case bool => trivial
      all_goals exact h'.elim
    case slice e =>
      simp only [kindOf, Option.some.injEq] at hk
      subst hk
      have h' : Cell.ok P w r b u v := h
      unfold Cell.ok at h'
      rw [hd] at h'
      cases v
      case slice => trivial
      all_goals exact h'.elim
    all_goals simp [kindOf] at hk

/-- The types of a state's cells. -/
noncomputable def stTs : List TypeId := (Try.prog.cellTypes Try.prog.depth 49).getD []
theorem stTs_eq : Try.prog.cellTypes Try.prog.depth 49 = some stTs := by kernel_rfl
theorem stTs_len : stTs.length = 1957 := by kernel_rfl
/-- The kind of a cell of the type u, by its number. -/
def kk (u : TypeId) : Option CK :=
  if u = 5 then some .u8 else if u = 22 then some .u64 else if u = 4 then some .bool
  else if u = 32 ∨ u = 35 ∨ u = 36 ∨ u = 37 ∨ u = 39 then some .slice else none
theorem kk_kind {u : TypeId} {k : CK} (h : kk u = some k) : kindOf (Try.prog.underlying u) = some k := by
  unfold kk at h
  split at h
  · rename_i e; subst e; rw [Try.underlying5]; exact h
  split at h
  · rename_i e; subst e; rw [Try.underlying22]; exact h
  split at h
  · rename_i e; subst e; rw [Try.underlying4]; exact h
  split at h
  · rename_i e
    rcases e with rfl | rfl | rfl | rfl | rfl
    · rw [Try.underlying32]; exact h
    · rw [Try.underlying35]; exact h
    · rw [Try.underlying36]; exact h
    · rw [Try.underlying37]; exact h
    · rw [Try.underlying39]; exact h
  · cases h
def sameK : Option CK → CK → Bool
  | some .u8, .u8 => true
  | some .u64, .u64 => true
  | some .bool, .bool => true
  | some .slice, .slice => true
  | _, _ => false
theorem sameK_eq {a : Option CK} {b : CK} (h : sameK a b = true) : a = some b := by
  cases a with
  | none => cases h
  | some a => cases a <;> cases b <;> first | rfl | cases h
def chkK : Nat → List TypeId → Bool
  | _, [] => true
  | i, u :: r => sameK (kk u) (ck i) && chkK (i + 1) r
theorem chkK_get : ∀ (l : List TypeId) (o i : Nat) (u : TypeId), chkK o l = true → l[i]? = some u → kk u = some (ck (o + i))
  | u0 :: r, o, 0, u, h, hu => by
    simp only [chkK, Bool.and_eq_true] at h
    simp only [List.getElem?_cons_zero, Option.some.injEq] at hu
    subst hu
    exact sameK_eq h.1
  | u0 :: r, o, i + 1, u, h, hu => by
    simp only [chkK, Bool.and_eq_true] at h
    simp only [List.getElem?_cons_succ] at hu
    have := chkK_get r (o + 1) i u h.2 hu
    rw [this, show o + 1 + i = o + (i + 1) by omega]
  | [], _, _, _, _, hu => by simp at hu
theorem stTs_chk : chkK 0 stTs = true := by kernel_rfl
theorem stTs_kind {i : Nat} (hi : i < 1957) : ∃ u, stTs[i]? = some u ∧ kindOf (Try.prog.underlying u) = some (ck i) := by
  have hl : i < stTs.length := by rw [stTs_len]; exact hi
  have e := List.getElem?_eq_getElem hl
  have := chkK_get stTs 0 i _ stTs_chk e
  rw [Nat.zero_add] at this
  exact ⟨_, e, kk_kind this⟩
theorem open_wf {w : World} {b : Nat} {v : Value} (hv : Value.okWide Try.prog w .any b 49 v) : ∃ cs, v = .agg cs ∧ WfC cs := by
  unfold Value.okWide at hv
  rw [Try.underlying49] at hv
  obtain ⟨cs, rfl, hs, ts, hts, -, h⟩ := hv
  rw [stTs_eq] at hts
  obtain rfl := Option.some.inj hts
  have hsz : cs.size = 1957 := hs.trans (by kernel_rfl)
  refine ⟨cs, rfl, hsz, fun i x hx => ?_⟩
  have hi : i < 1957 := by rw [← hsz]; exact (Array.getElem?_eq_some_iff.1 hx).1
  obtain ⟨u, hu, hk⟩ := h i x hx
  rw [stTs_len, Nat.mod_eq_of_lt hi] at hu
  obtain ⟨u', hu', hk'⟩ := stTs_kind hi
  rw [hu] at hu'
  obtain rfl := Option.some.inj hu'
  exact kindOf_ok hk' hk

section
variable {H : Type} {enc : TypeId × Value → H} {P : Program} {w : World} {base : Nat} {spare : Nat → Bool} {held : Bool}
theorem seg_u64 {t : TypeId} {m o : Nat} {cs : List Value} {ys : Option (DataW H × List MemPlace)} (hu : P.underlying t = some (.int .u64)) (hc : P.cellsOf t = 1) (h : DataW.trod enc P w base spare held m t ((cs.drop o).take (P.cellsOf t)) = ys) (hy : ys.isSome = true) :
    ∀ v, cs[o]? = some v → CK.u64.ok v := by
  intro v hv
  obtain ⟨y, rfl⟩ := Option.isSome_iff_exists.1 hy
  obtain ⟨n, e, -, hw⟩ := DataW.trod_int hu h
  rw [hc] at e
  have e0 : ((cs.drop o).take 1)[0]? = some v := by rw [List.getElem?_take, if_pos (by omega), List.getElem?_drop, Nat.add_zero]; exact hv
  rw [e] at e0
  simp only [List.getElem?_cons_zero, Option.some.injEq] at e0
  subst e0
  simp only [Lit.wf, IntKind.min, IntKind.max, IntKind.signed, IntKind.bits] at hw
  simp only [CK.ok, W64]
  simp at hw
  omega
theorem seg_bool {t : TypeId} {m o : Nat} {cs : List Value} {ys : Option (DataW H × List MemPlace)} (hu : P.underlying t = some .bool) (hc : P.cellsOf t = 1) (h : DataW.trod enc P w base spare held m t ((cs.drop o).take (P.cellsOf t)) = ys) (hy : ys.isSome = true) :
    ∀ v, cs[o]? = some v → CK.bool.ok v := by
  intro v hv
  obtain ⟨y, rfl⟩ := Option.isSome_iff_exists.1 hy
  obtain ⟨n, e, -⟩ := DataW.trod_bool hu h
  rw [hc] at e
  have e0 : ((cs.drop o).take 1)[0]? = some v := by rw [List.getElem?_take, if_pos (by omega), List.getElem?_drop, Nat.add_zero]; exact hv
  rw [e] at e0
  simp only [List.getElem?_cons_zero, Option.some.injEq] at e0
  subst e0
  trivial
theorem seg_u8 {t : TypeId} {m o : Nat} {cs : List Value} {ys : Option (DataW H × List MemPlace)} (hu : P.underlying t = some (.int .u8)) (hc : P.cellsOf t = 1) (h : DataW.trod enc P w base spare held m t ((cs.drop o).take (P.cellsOf t)) = ys) (hy : ys.isSome = true) :
    ∀ v, cs[o]? = some v → CK.u8.ok v := by
  intro v hv
  obtain ⟨y, rfl⟩ := Option.isSome_iff_exists.1 hy
  obtain ⟨n, e, -, hw⟩ := DataW.trod_int hu h
  rw [hc] at e
  have e0 : ((cs.drop o).take 1)[0]? = some v := by rw [List.getElem?_take, if_pos (by omega), List.getElem?_drop, Nat.add_zero]; exact hv
  rw [e] at e0
  simp only [List.getElem?_cons_zero, Option.some.injEq] at e0
  subst e0
  simp only [Lit.wf, IntKind.min, IntKind.max, IntKind.signed, IntKind.bits] at hw
  simp only [CK.ok, W8]
  simp at hw
  omega
/-- An array of bytes at o. -/
theorem seg_bytes {t e : TypeId} {n m o : Nat} {cs : List Value} {ys : Option (DataW H × List MemPlace)} (hu : P.underlying t = some (.array n e)) (he : P.underlying e = some (.int .u8)) (hce : P.cellsOf e = 1) (hc : P.cellsOf t = n)
    (h : DataW.trod enc P w base spare held m t ((cs.drop o).take (P.cellsOf t)) = ys) (hy : ys.isSome = true) : ∀ j, o ≤ j → j < o + n → ∀ v, cs[j]? = some v → CK.u8.ok v := by
  intro j h1 h2 v hv
  obtain ⟨y, rfl⟩ := Option.isSome_iff_exists.1 hy
  obtain ⟨xs, m', -, -, -, hl, hx⟩ := DataW.trod_array hu h
  have hx' := hx (j - o) (by omega)
  refine seg_u8 he hce hx' (by rw [List.getElem?_eq_getElem (by omega)]; rfl) v ?_
  rw [hce, Nat.mul_one, hc, List.getElem?_take, if_pos (by omega), List.getElem?_drop, ← hv]
  congr 1; omega
end

theorem cellsOf_of {P : Program} {t : TypeId} {n : Nat} (h : (P.info? t).map (·.size) = some n) : P.cellsOf t = n := by unfold Program.cellsOf; rw [h]; rfl

section
variable {H : Type} {enc : TypeId × Value → H} {w : World} {base : Nat} {spare : Nat → Bool} {held : Bool} {m : Nat} {cs : List Value} {y : DataW H × List MemPlace}
theorem el_u64 (k : Nat) (hk : ∀ j, ek k j = .u64) (hz : esz k = 1) (h : DataW.trod enc Try.prog w base spare held m 22 cs = some y) : cs.length = esz k ∧ ∀ r u, cs[r]? = some u → (ek k r).ok u := by
  obtain ⟨n, rfl, -, hw⟩ := DataW.trod_int Try.underlying22 h
  refine ⟨hz.symm, fun r u hu => ?_⟩
  rw [hk]
  cases r with
  | succ r => simp at hu
  | zero =>
    simp only [List.getElem?_cons_zero, Option.some.injEq] at hu
    subst hu
    simp only [Lit.wf, IntKind.min, IntKind.max, IntKind.signed, IntKind.bits] at hw
    simp only [CK.ok, W64]
    simp at hw
    omega
theorem el_u8 (k : Nat) (hk : ∀ j, ek k j = .u8) (hz : esz k = 1) (h : DataW.trod enc Try.prog w base spare held m 5 cs = some y) : cs.length = esz k ∧ ∀ r u, cs[r]? = some u → (ek k r).ok u := by
  obtain ⟨n, rfl, -, hw⟩ := DataW.trod_int Try.underlying5 h
  refine ⟨hz.symm, fun r u hu => ?_⟩
  rw [hk]
  cases r with
  | succ r => simp at hu
  | zero =>
    simp only [List.getElem?_cons_zero, Option.some.injEq] at hu
    subst hu
    simp only [Lit.wf, IntKind.min, IntKind.max, IntKind.signed, IntKind.bits] at hw
    simp only [CK.ok, W8]
    simp at hw
    omega
theorem el_root (h : DataW.trod enc Try.prog w base spare held m 24 cs = some y) : cs.length = esz 653 ∧ ∀ r u, cs[r]? = some u → (ek 653 r).ok u := by
  have hc : Try.prog.cellsOf 24 = 32 := cellsOf_of szRoot
  have hl : cs.length = 32 := by
    obtain ⟨xs, m', -, -, hl, -⟩ := DataW.trod_array Try.underlying24 h
    rw [hl, hc]
  have h' : DataW.trod enc Try.prog w base spare held m 24 ((cs.drop 0).take (Try.prog.cellsOf 24)) = some y := by
    rw [List.drop_zero, List.take_of_length_le (by omega)]; exact h
  refine ⟨hl, fun r u hu => ?_⟩
  have hr : r < 32 := by rw [← hl]; exact (List.getElem?_eq_some_iff.1 hu).1
  exact seg_bytes Try.underlying24 Try.underlying5 (by kernel_rfl) hc h' rfl r (by omega) (by omega) u hu
theorem el_eth1 (h : DataW.trod enc Try.prog w base spare held m 34 cs = some y) : cs.length = esz 719 ∧ ∀ r u, cs[r]? = some u → (ek 719 r).ok u := by
  have hc : Try.prog.cellsOf 24 = 32 := cellsOf_of szRoot
  obtain ⟨xs, n, -, -, hl, hx, hf⟩ := DataW.trod_struct Try.underlying34 h
  have hl' : cs.length = 65 := hl.trans (by kernel_rfl)
  have hs : ∀ i, i < 3 → (xs[i]?).isSome = true := fun i hi => by rw [List.getElem?_eq_getElem (by rw [hx]; exact hi)]; rfl
  have h0 := seg_bytes Try.underlying24 Try.underlying5 (by kernel_rfl) hc (hf 0 _ rfl) (hs 0 (by omega))
  have h1 := seg_u64 Try.underlying22 (by kernel_rfl) (hf 1 _ rfl) (hs 1 (by omega))
  have h2 := seg_bytes Try.underlying24 Try.underlying5 (by kernel_rfl) hc (hf 2 _ rfl) (hs 2 (by omega))
  refine ⟨hl', fun r u hu => ?_⟩
  have hr : r < 65 := by rw [← hl']; exact (List.getElem?_eq_some_iff.1 hu).1
  unfold ek
  rw [if_neg (by omega), if_pos rfl, Nat.mod_eq_of_lt hr]
  by_cases e : r = 32
  · subst e; rw [if_pos rfl]; exact h1 u hu
  · rw [if_neg e]
    by_cases e2 : r < 32
    · exact h0 r (by show 0 ≤ r; omega) (by show r < 0 + 32; omega) u hu
    · exact h2 r (by show 33 ≤ r; omega) (by show r < 33 + 32; omega) u hu
theorem el_val (h : DataW.trod enc Try.prog w base spare held m 82 cs = some y) : cs.length = esz 721 ∧ ∀ r u, cs[r]? = some u → (ek 721 r).ok u := by
  have hc : Try.prog.cellsOf 24 = 32 := cellsOf_of szRoot
  obtain ⟨xs, n, -, -, hl, hx, hf⟩ := DataW.trod_struct Try.underlying82 h
  have hl' : cs.length = 86 := hl.trans (by kernel_rfl)
  have hs : ∀ i, i < 8 → (xs[i]?).isSome = true := fun i hi => by rw [List.getElem?_eq_getElem (by rw [hx]; exact hi)]; rfl
  have h0 := seg_bytes Try.underlying44 Try.underlying5 (by kernel_rfl) (by kernel_rfl) (hf 0 _ rfl) (hs 0 (by omega))
  have h1 := seg_bytes Try.underlying24 Try.underlying5 (by kernel_rfl) hc (hf 1 _ rfl) (hs 1 (by omega))
  have h2 := seg_u64 Try.underlying22 (by kernel_rfl) (hf 2 _ rfl) (hs 2 (by omega))
  have h3 := seg_bool Try.underlying4 (by kernel_rfl) (hf 3 _ rfl) (hs 3 (by omega))
  have h4 := seg_u64 Try.underlying22 (by kernel_rfl) (hf 4 _ rfl) (hs 4 (by omega))
  have h5 := seg_u64 Try.underlying22 (by kernel_rfl) (hf 5 _ rfl) (hs 5 (by omega))
  have h6 := seg_u64 Try.underlying22 (by kernel_rfl) (hf 6 _ rfl) (hs 6 (by omega))
  have h7 := seg_u64 Try.underlying22 (by kernel_rfl) (hf 7 _ rfl) (hs 7 (by omega))
  refine ⟨hl', fun r u hu => ?_⟩
  have hr : r < 86 := by rw [← hl']; exact (List.getElem?_eq_some_iff.1 hu).1
  unfold ek
  rw [if_neg (by omega), if_neg (by omega), if_pos rfl, Nat.mod_eq_of_lt hr]
  by_cases e0 : r < 80
  · rw [if_pos e0]
    by_cases e1 : r < 48
    · exact h0 r (by show 0 ≤ r; omega) (by show r < 0 + 48; omega) u hu
    · exact h1 r (by show 48 ≤ r; omega) (by show r < 48 + 32; omega) u hu
  · rw [if_neg e0]
    by_cases e1 : r = 81
    · subst e1; rw [if_pos rfl]; exact h3 u hu
    · rw [if_neg e1]
      rcases (show r = 80 ∨ r = 82 ∨ r = 83 ∨ r = 84 ∨ r = 85 by omega) with rfl | rfl | rfl | rfl | rfl
      · exact h2 u hu
      · exact h4 u hu
      · exact h5 u hu
      · exact h6 u hu
      · exact h7 u hu
end

theorem spot_of {P : Program} {w : World} {r : Reach} {b : Nat} {u e : TypeId} {v : Value} (hu : P.underlying u = some (.slice e)) (h : Cell.okWide P w r b u v) : ∀ a n c, v = .slice (some a) n c → a.spot = none := by
  rintro a n c rfl
  unfold Cell.okWide at h
  rw [hu] at h
  have h' : Cell.ok P w r b u (.slice (some a) n c) := h
  unfold Cell.ok at h'
  rw [hu] at h'
  exact h'.2.2.2.1
/-- What is behind a slice. -/
def Lof (w : World) (size : Nat) : Value → List Value
  | .slice (some a) n _ => (List.range (n * size)).map fun j => (w.cell? (a.add j)).getD undef
  | _ => []
theorem ek_mod (k j : Nat) : ek k (j % esz k) = ek k j := by
  unfold ek esz
  split
  · rfl
  · split
    · rename_i h1 h2
      subst h2
      simp
    · split
      · rename_i h1 h2 h3
        subst h3
        simp
      · rfl

section
variable {H : Type} {enc : TypeId × Value → H} {w : World}
theorem open_sl {t e : TypeId} (k : Nat) (hu : Try.prog.underlying t = some (.slice e)) (hce : Try.prog.cellsOf e = esz k) (hz : 0 < esz k) (hby : Try.prog.bytesOf e = eby k) {fuel : Nat} {v : Value} {x : DataW H × List MemPlace}
    (hv : ∀ a n c, v = .slice (some a) n c → a.spot = none)
    (h : DataW.trod enc Try.prog w 0 (fun _ => true) true fuel t [v] = some x) (hw : ∀ n ∈ x.1.weights Try.prog t, n ≤ reachBytes)
    (hk : ∀ m cs' y, DataW.trod enc Try.prog w 0 (fun _ => true) true m e cs' = some y → cs'.length = esz k ∧ ∀ r u, cs'[r]? = some u → (ek k r).ok u) :
    ∃ a n c, v = .slice a n c ∧ SlR w w.heap.size (esz k) (eby k) a n c (Lof w (esz k) v) ∧ ∀ j u, (Lof w (esz k) v)[j]? = some u → (ek k j).ok u := by
  rcases open_slice hu h with ⟨h0, -⟩ | ⟨a, len, cap, m, n, D, Pl, hcs, -, hle, hm, hmm, hx, hi⟩
  · simp only [List.cons.injEq, and_true] at h0
    subst h0
    exact ⟨none, 0, 0, rfl, SlR.nil_.more (Nat.zero_le _), fun j u hj => by simp [Lof] at hj⟩
  · simp only [List.cons.injEq, and_true] at hcs
    subst hcs
    have hsp := hv a len cap rfl
    obtain ⟨bl, o, sp⟩ := a
    simp only at hsp
    subst hsp
    simp only [if_true] at hmm
    subst hmm
    have hcell : ∀ i r, i < len → r < esz k → ∃ u, w.cell? ⟨bl, o + (i * esz k + r), none⟩ = some u ∧ (ek k r).ok u := by
      intro i r hil hr
      obtain ⟨cs', hc, ht⟩ := hi i (by omega)
      obtain ⟨hl, hkk⟩ := hk _ _ _ ht
      rw [hce] at hc
      obtain ⟨_, _, hat⟩ := World.cells?_some hc
      have hr' : r < cs'.length := by omega
      refine ⟨cs'[r], ?_, hkk r _ (List.getElem?_eq_getElem hr')⟩
      have := hat r hr
      rw [Addr.add_mid, Addr.add_mid, Nat.add_assoc, List.getElem?_eq_getElem hr'] at this
      exact this
    have hall : ∀ j, j < len * esz k → ∃ u, w.cell? ⟨bl, o + j, none⟩ = some u ∧ (ek k j).ok u := by
      intro j hj
      have hr : j % esz k < esz k := Nat.mod_lt _ hz
      have hq : j / esz k < len := Nat.div_lt_of_lt_mul (by rw [Nat.mul_comm]; exact hj)
      obtain ⟨u, h1, h2⟩ := hcell (j / esz k) (j % esz k) hq hr
      rw [show j / esz k * esz k + j % esz k = j by rw [Nat.mul_comm]; exact Nat.div_add_mod _ _] at h1
      rw [ek_mod] at h2
      exact ⟨u, h1, h2⟩
    have hget : ∀ j u, (Lof w (esz k) (.slice (some ⟨bl, o, none⟩) len m))[j]? = some u → w.cell? ⟨bl, o + j, none⟩ = some u ∧ (ek k j).ok u := by
      intro j u hj
      simp only [Lof, List.getElem?_map, Option.map_eq_some_iff] at hj
      obtain ⟨j', hj', rfl⟩ := hj
      obtain ⟨hlt, rfl⟩ := List.getElem?_eq_some_iff.1 hj'
      simp only [List.getElem_range, List.length_range] at hlt ⊢
      obtain ⟨u, h1, h2⟩ := hall j hlt
      rw [Addr.add_mid, h1]
      exact ⟨rfl, h2⟩
    refine ⟨some ⟨bl, o, none⟩, len, m, rfl, ⟨by simp [Lof], hle, by unfold maxLen at hm; exact hm, ?_, fun h => (by cases h), fun hn => ⟨bl, o, rfl, ?_, fun j u hj => (hget j u hj).1⟩⟩, fun j u hj => (hget j u hj).2⟩
    · have := hw ((len + (m - len)) * Try.prog.bytesOf e) (by rw [hx]; simp [DataW.weights, hu])
      rw [hby, show len + (m - len) = m by omega] at this
      exact Nat.le_trans (Nat.mul_le_mul_right _ hle) this
    · obtain ⟨u, h1, -⟩ := hall 0 (Nat.mul_pos hn hz)
      rcases Nat.lt_or_ge bl w.heap.size with hl | hl
      · exact hl
      · simp [World.cell?, Array.getElem?_eq_none hl] at h1
end

end Go.Proofs.Ytikbkcidalippaa
