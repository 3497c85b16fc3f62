/-
  Who is active, who has a flag: the lists, as cells. One more appended. Plain Lean.
-/
import Derived.Test.YtikbkcidalippaaRefBase
import Derived.Test.YtikbkcidalippaaCopy
namespace Go.Proofs.Ytikbkcidalippaa
open Go.RowKit
set_option maxRecDepth 100000

/-- Is the validator i of the registry l active in the epoch; slashed? -/
def actB (l : List Value) (ep : Int) (i : Nat) : Bool := decide (lN l (86 * i + 83) ≤ ep ∧ ep < lN l (86 * i + 84))
def slB (l : List Value) (i : Nat) : Bool := lB l (86 * i + 81)
/-- Has the byte x the flag f (0, 1, 2)? -/
def bitB (x : Int) (f : Nat) : Bool := decide (x / 2 ^ f % 2 = 1)
def flB (l : List Value) (f i : Nat) : Bool := bitB (lN l i) f
/-- Numbers as cells. -/
def nums (l : List Nat) : List Value := l.map fun i : Nat => .int .u64 (i : Int)
/-- Those below n that are active; that are active, not slashed and have a flag in the bytes l. -/
def actL (v : List Value) (ep : Int) (n : Nat) : List Nat := (List.range n).filter (actB v ep)
def unsB (v l : List Value) (ep : Int) (f i : Nat) : Bool := actB v ep i && (!slB v i && flB l f i)
def unsL (v l : List Value) (ep : Int) (f n : Nat) : List Nat := (List.range n).filter (unsB v l ep f)

theorem filter_range_succ (p : Nat → Bool) (k : Nat) : (List.range (k + 1)).filter p = (List.range k).filter p ++ if p k = true then [k] else [] := by
  rw [List.range_succ, List.filter_append]
  congr 1
  by_cases h : p k = true
  · simp [h]
  · simp [h]
theorem filter_range_len (p : Nat → Bool) (k : Nat) : ((List.range k).filter p).length ≤ k := by
  have := List.length_filter_le p (List.range k)
  simpa using this
theorem actL_succ_yes {v : List Value} {ep : Int} {k : Nat} (h : actB v ep k = true) : actL v ep (k + 1) = actL v ep k ++ [k] := by
  unfold actL; rw [filter_range_succ, if_pos h]
theorem actL_succ_no {v : List Value} {ep : Int} {k : Nat} (h : actB v ep k = false) : actL v ep (k + 1) = actL v ep k := by
  unfold actL; rw [filter_range_succ, if_neg (by rw [h]; decide), List.append_nil]
theorem unsL_succ_yes {v l : List Value} {ep : Int} {f k : Nat} (h : unsB v l ep f k = true) : unsL v l ep f (k + 1) = unsL v l ep f k ++ [k] := by
  unfold unsL; rw [filter_range_succ, if_pos h]
theorem unsL_succ_no {v l : List Value} {ep : Int} {f k : Nat} (h : unsB v l ep f k = false) : unsL v l ep f (k + 1) = unsL v l ep f k := by
  unfold unsL; rw [filter_range_succ, if_neg (by rw [h]; decide), List.append_nil]
theorem actL_len (v : List Value) (ep : Int) (k : Nat) : (actL v ep k).length ≤ k := filter_range_len _ _
theorem unsL_len (v l : List Value) (ep : Int) (f k : Nat) : (unsL v l ep f k).length ≤ k := filter_range_len _ _
theorem actL_lt {v : List Value} {ep : Int} {n k : Nat} (h : k < (actL v ep n).length) : (actL v ep n)[k] < n ∧ actB v ep (actL v ep n)[k] = true := by
  have := List.mem_filter.1 (List.getElem_mem h)
  exact ⟨List.mem_range.1 this.1, this.2⟩
/-- Those of the active ones, one by one. -/
theorem uns_of_act (v l : List Value) (ep : Int) (f n : Nat) : (actL v ep n).filter (fun i => !slB v i && flB l f i) = unsL v l ep f n := by
  unfold actL unsL unsB
  rw [List.filter_filter]
  congr 1
  funext i
  exact Bool.and_comm _ _

theorem nums_len (l : List Nat) : (nums l).length = l.length := by simp [nums]
theorem nums_snoc (l : List Nat) (k : Nat) : nums (l ++ [k]) = nums l ++ [.int .u64 k] := by simp [nums]
theorem nums_get (l : List Nat) {k : Nat} (h : k < l.length) : (nums l)[k]? = some (.int .u64 (l[k] : Nat)) := by simp [nums, h]
theorem nums_ones (l : List Nat) : ∀ u ∈ nums l, u.oneCell' = true := by
  intro u hu
  obtain ⟨i, -, rfl⟩ := List.mem_map.1 hu
  rfl

/-- A new block of one cell, as a slice. -/
theorem slr_new (w : World) (t : TypeId) (v : Value) {bytes : Nat} (hb : bytes ≤ 140737488351232) : SlR (w.alloc (.cells #[v] t)) (w.heap.size + 1) 1 bytes (some ⟨w.heap.size, 0, none⟩) 1 1 [v] :=
  ⟨rfl, Nat.le_refl _, by decide, by omega, fun h => (by cases h), fun _ => ⟨_, _, rfl, by omega, fun j u hj => by
    have h0 : j = 0 := by
      have := (List.getElem?_eq_some_iff.1 hj).1
      simp at this; exact this
    subst h0
    simp only [List.getElem?_cons_zero, Option.some.injEq] at hj
    subst hj
    exact (Blk.new w t #[v]).cell 0⟩⟩
theorem own_weak {w : World} {lo lo' : Nat} {e : TypeId} {sz n : Nat} {v : Value} {xs : List Value} (h : w.ownsRow lo e sz v n xs) (hl : lo' ≤ lo) : w.ownsRow lo' e sz v n xs :=
  ⟨h.1, by
    rcases h.2 with h2 | ⟨g, cap, cur, hv, hg, r⟩
    · exact .inl h2
    · exact .inr ⟨g, cap, cur, hv, Nat.le_trans hl hg, r⟩⟩
theorem own_blk {w w' : World} {lo : Nat} {e : TypeId} {sz n : Nat} {v : Value} {xs : List Value} (h : w.ownsRow lo e sz v n xs) (hb : Below w.heap.size w w') : w'.ownsRow lo e sz v n xs := by
  obtain ⟨h1, h2⟩ := h
  refine ⟨h1, ?_⟩
  rcases h2 with h2 | ⟨g, cap, cur, hv, hg, hh, r⟩
  · exact .inl h2
  · exact .inr ⟨g, cap, cur, hv, hg, (hb.block g (Blk.lt (w := w) (g := g) hh)).trans hh, r⟩
/-- One appended: what stands. -/
theorem grown_below {w wr w' : World} {lo : Nat} {e : TypeId} {sz n : Nat} {v : Value} {xs : List Value} {o : Obj} (hb : Below w.heap.size w wr) (ho : wr.ownsRow lo e sz v n xs) (hl : w.heap.size ≤ lo) (hg : (wr.alloc o).grownBy w' v.ownBlock) : Below w.heap.size w w' :=
  (hb.alloc hb.size o).grown hg (by rw [World.size_alloc]; have := hb.size; omega) fun k hk => Nat.le_trans hl (ho.lt k hk).1
theorem grown_blk {wr w' : World} {lo g : Nat} {e t : TypeId} {sz n : Nat} {v : Value} {xs : List Value} {cs : Array Value} {o : Obj} (hb : Blk wr g t cs) (ho : wr.ownsRow lo e sz v n xs) (hl : g < lo) (hg : (wr.alloc o).grownBy w' v.ownBlock) : Blk w' g t cs :=
  (hb.alloc o).grown hg fun h => by have := (ho.lt g h.symm).1; omega

end Go.Proofs.Ytikbkcidalippaa
