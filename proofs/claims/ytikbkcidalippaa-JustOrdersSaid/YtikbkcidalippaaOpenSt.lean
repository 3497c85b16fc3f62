/-
  A state as an argument: opened to its cells and what its slices read as.
-/
import Derived.Test.YtikbkcidalippaaOpen
namespace Go.Proofs.Ytikbkcidalippaa
open Go.RowKit Go.ChangeShapes Go.WideShapes Go.Deep
set_option maxRecDepth 100000

theorem open_cells {w : World} {b : Nat} {v : Value} (hv : Value.okWide Try.prog w .any b 49 v) : ∃ cs, v = .agg cs ∧ WfC cs ∧ ∀ (i : Nat) (u : TypeId), stTs[i]? = some u → ∀ x, cs[i]? = some x → Cell.okWide Try.prog w .any b u x := by
  obtain ⟨cs, rfl, hwf⟩ := open_wf hv
  refine ⟨cs, rfl, hwf, fun i u hu x hx => ?_⟩
  unfold Value.okWide at hv
  rw [Try.underlying49] at hv
  obtain ⟨cs', e, hs, ts, hts, -, h⟩ := hv
  cases e
  rw [stTs_eq] at hts
  obtain rfl := Option.some.inj hts
  have hi : i < 1957 := by rw [← hwf.size]; exact (Array.getElem?_eq_some_iff.1 hx).1
  obtain ⟨u', hu', hk⟩ := h i x hx
  rw [stTs_len, Nat.mod_eq_of_lt hi, hu] at hu'
  rw [Option.some.inj hu']
  exact hk

section
variable {H : Type} {enc : TypeId × Value → H} {w : World}
/-- One slice of the state. -/
theorem field_sl {t e : TypeId} (k : Nat) (hu : Try.prog.underlying t = some (.slice e)) (hct : Try.prog.cellsOf t = 1) (hce : Try.prog.cellsOf e = esz k) (hz : 0 < esz k) (hby : Try.prog.bytesOf e = eby k) {b fuel : Nat} {cs : Array Value} (hk1 : k < cs.size)
    {ys : Option (DataW H × List MemPlace)} (h : DataW.trod enc Try.prog w 0 (fun _ => true) true fuel t ((cs.toList.drop k).take (Try.prog.cellsOf t)) = ys) (hy : ∀ y, ys = some y → ∀ n ∈ y.1.weights Try.prog t, n ≤ reachBytes) (hs : ys.isSome = true)
    (hv : ∀ x, cs[k]? = some x → Cell.okWide Try.prog w .any b t x)
    (hk : ∀ m cs' y, DataW.trod enc Try.prog w 0 (fun _ => true) true m e cs' = some y → cs'.length = esz k ∧ ∀ r u, cs'[r]? = some u → (ek k r).ok u) :
    ∃ a n c, cs[k]? = some (.slice a n c) ∧ SlR w w.heap.size (esz k) (eby k) a n c (Lof w (esz k) (cs[k]?.getD undef)) ∧ ∀ j u, (Lof w (esz k) (cs[k]?.getD undef))[j]? = some u → (ek k j).ok u := by
  obtain ⟨y, rfl⟩ := Option.isSome_iff_exists.1 hs
  have hl : k < cs.toList.length := by simpa using hk1
  have e1 : (cs.toList.drop k).take (Try.prog.cellsOf t) = [cs[k]] := by
    rw [hct, List.drop_eq_getElem_cons hl]
    simp
  rw [e1] at h
  have hc := hv _ (Array.getElem?_eq_getElem hk1)
  obtain ⟨a, n, c, e2, h1, h2⟩ := open_sl k hu hce hz hby (spot_of hu hc) h (hy y rfl) hk
  rw [Array.getElem?_eq_getElem hk1]
  exact ⟨a, n, c, by rw [e2], h1, h2⟩

theorem open_state {b : Nat} {v : Value} {d : DataW H} {p : List MemPlace} (hv : Value.okWide Try.prog w .any b 49 v) (h : DataW.Trod enc Try.prog w 0 (fun _ => true) true 49 v d p)
    (hw : ∀ n ∈ d.weights Try.prog 49, n ≤ reachBytes) : ∃ cs L, v = .agg cs ∧ IsSt w w.heap.size cs L := by
  obtain ⟨cs, rfl, hwf, hcell⟩ := open_cells hv
  obtain ⟨fuel, hf⟩ := h
  obtain ⟨xs, n, -, hx, -, hlen, hg⟩ := DataW.trod_struct Try.underlying49 hf
  simp only [Prod.mk.injEq] at hx
  obtain ⟨rfl, -⟩ := hx
  have hsome : ∀ i, i < 24 → (xs[i]?).isSome = true := fun i hi => by rw [List.getElem?_eq_getElem (by rw [hlen]; exact hi)]; rfl
  have hwt : ∀ (i : Nat) (f : Field), Try.prog.underlying 49 = Try.prog.underlying 49 → (match Try.prog.underlying 49 with | some (.struct fs) => fs.toList[i]? | _ => none) = some f → ∀ y, xs[i]? = some y → ∀ m ∈ y.1.weights Try.prog f.type, m ≤ reachBytes := by
    intro i f _ hfi y hy m hm
    refine hw m ?_
    rw [Try.underlying49] at hfi
    simp only at hfi
    simp only [DataW.weights, Try.underlying49]
    exact DataW.weights_mem_each (j := i) (by rw [List.getElem?_map, hfi]; rfl) (by rw [List.getElem?_map, hy]; rfl) m hm
  have hsz := hwf.size
  have h653 := field_sl (enc := enc) (cs := cs) 653 Try.underlying32 (by kernel_rfl) (by kernel_rfl) (by decide) (by kernel_rfl) (by rw [hsz]; decide) (hg 7 _ rfl) (hwt 7 _ rfl (by rw [Try.underlying49]; rfl)) (hsome 7 (by omega)) (hcell 653 _ (by kernel_rfl)) (fun _ _ _ h => el_root h)
  have h719 := field_sl (enc := enc) (cs := cs) 719 Try.underlying35 (by kernel_rfl) (by kernel_rfl) (by decide) (by kernel_rfl) (by rw [hsz]; decide) (hg 9 _ rfl) (hwt 9 _ rfl (by rw [Try.underlying49]; rfl)) (hsome 9 (by omega)) (hcell 719 _ (by kernel_rfl)) (fun _ _ _ h => el_eth1 h)
  have h721 := field_sl (enc := enc) (cs := cs) 721 Try.underlying36 (by kernel_rfl) (by kernel_rfl) (by decide) (by kernel_rfl) (by rw [hsz]; decide) (hg 11 _ rfl) (hwt 11 _ rfl (by rw [Try.underlying49]; rfl)) (hsome 11 (by omega)) (hcell 721 _ (by kernel_rfl)) (fun _ _ _ h => el_val h)
  have h722 := field_sl (enc := enc) (cs := cs) 722 Try.underlying37 (by kernel_rfl) (by kernel_rfl) (by decide) (by kernel_rfl) (by rw [hsz]; decide) (hg 12 _ rfl) (hwt 12 _ rfl (by rw [Try.underlying49]; rfl)) (hsome 12 (by omega)) (hcell 722 _ (by kernel_rfl)) (fun _ _ _ h => el_u64 722 (fun _ => rfl) rfl h)
  have h987 := field_sl (enc := enc) (cs := cs) 987 Try.underlying39 (by kernel_rfl) (by kernel_rfl) (by decide) (by kernel_rfl) (by rw [hsz]; decide) (hg 15 _ rfl) (hwt 15 _ rfl (by rw [Try.underlying49]; rfl)) (hsome 15 (by omega)) (hcell 987 _ (by kernel_rfl)) (fun _ _ _ h => el_u8 987 (fun _ => rfl) rfl h)
  have h988 := field_sl (enc := enc) (cs := cs) 988 Try.underlying39 (by kernel_rfl) (by kernel_rfl) (by decide) (by kernel_rfl) (by rw [hsz]; decide) (hg 16 _ rfl) (hwt 16 _ rfl (by rw [Try.underlying49]; rfl)) (hsome 16 (by omega)) (hcell 988 _ (by kernel_rfl)) (fun _ _ _ h => el_u8 988 (fun _ => rfl) rfl h)
  have h1092 := field_sl (enc := enc) (cs := cs) 1092 Try.underlying37 (by kernel_rfl) (by kernel_rfl) (by decide) (by kernel_rfl) (by rw [hsz]; decide) (hg 21 _ rfl) (hwt 21 _ rfl (by rw [Try.underlying49]; rfl)) (hsome 21 (by omega)) (hcell 1092 _ (by kernel_rfl)) (fun _ _ _ h => el_u64 1092 (fun _ => rfl) rfl h)
  refine ⟨cs, fun k => Lof w (esz k) (cs[k]?.getD undef), rfl, hwf, fun k hk => ?_, fun k hk => ?_⟩
  · rcases hk with rfl | rfl | rfl | rfl | rfl | rfl | rfl
    · obtain ⟨a, n, c, e, s, -⟩ := h653; exact ⟨a, n, c, e, s⟩
    · obtain ⟨a, n, c, e, s, -⟩ := h719; exact ⟨a, n, c, e, s⟩
    · obtain ⟨a, n, c, e, s, -⟩ := h721; exact ⟨a, n, c, e, s⟩
    · obtain ⟨a, n, c, e, s, -⟩ := h722; exact ⟨a, n, c, e, s⟩
    · obtain ⟨a, n, c, e, s, -⟩ := h987; exact ⟨a, n, c, e, s⟩
    · obtain ⟨a, n, c, e, s, -⟩ := h988; exact ⟨a, n, c, e, s⟩
    · obtain ⟨a, n, c, e, s, -⟩ := h1092; exact ⟨a, n, c, e, s⟩
  · rcases hk with rfl | rfl | rfl | rfl | rfl | rfl | rfl
    · obtain ⟨_, _, _, _, _, s⟩ := h653; exact s
    · obtain ⟨_, _, _, _, _, s⟩ := h719; exact s
    · obtain ⟨_, _, _, _, _, s⟩ := h721; exact s
    · obtain ⟨_, _, _, _, _, s⟩ := h722; exact s
    · obtain ⟨_, _, _, _, _, s⟩ := h987; exact s
    · obtain ⟨_, _, _, _, _, s⟩ := h988; exact s
    · obtain ⟨_, _, _, _, _, s⟩ := h1092; exact s
end

end Go.Proofs.Ytikbkcidalippaa
