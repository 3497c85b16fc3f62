/-
  work.Clone: a state's clone: its seven slices in new memory.
-/
import Derived.Test.YtikbkcidalippaaCopy
import Derived.Deep.RegionHeld3
import Derived.Deep.DeepCutAuto
namespace Go.Proofs.Ytikbkcidalippaa
open Go.RowKit
attribute [local irreducible] Hid Blk
set_option maxRecDepth 100000

/-- The element type behind slice k. -/
def ety (k : Nat) : TypeId := if k = 653 then 24 else if k = 719 then 34 else if k = 721 then 82 else if k = 987 ∨ k = 988 then 5 else 22
/-- v is a slice of the call's own, in a block from lo to hi; it reads as what stood behind slice k. -/
def Own1 (w : World) (lo hi k : Nat) (v : Value) (L : Nat → List Value) : Prop :=
  ∃ a n c, v = .slice a n c ∧ w.ownsRow lo (ety k) (esz k) (.slice a n c) n (L k) ∧ ∀ b, v.ownBlock = some b → b < hi
theorem own_block {w w' : World} {lo : Nat} {e : TypeId} {sz n : Nat} {v : Value} {xs : List Value} (h : w.ownsRow lo e sz v n xs) (hk : ∀ b, v.ownBlock = some b → w'.heap[b]? = w.heap[b]?) : w'.ownsRow lo e sz v n xs := by
  obtain ⟨h1, h2⟩ := h
  refine ⟨h1, ?_⟩
  rcases h2 with h2 | ⟨g, cap, cur, hv, hg, hh, r⟩
  · exact .inl h2
  · subst hv
    exact .inr ⟨g, cap, cur, rfl, hg, (hk g rfl).trans hh, r⟩
theorem Own1.below {w w' : World} {lo hi k : Nat} {v : Value} {L : Nat → List Value} (h : Own1 w lo hi k v L) (hb : Below w.heap.size w w') : Own1 w' lo hi k v L := by
  obtain ⟨a, n, c, rfl, ho, hh⟩ := h
  exact ⟨a, n, c, rfl, own_block ho (fun b hb' => hb.block b (ho.lt b hb').2), hh⟩
theorem Own1.setCell {w : World} {lo hi k : Nat} {v : Value} {L : Nat → List Value} (h : Own1 w lo hi k v L) {p : Addr} (hp : p.block < lo) (u : Value) : Own1 (w.setCell p u) lo hi k v L := by
  obtain ⟨a, n, c, rfl, ho, hh⟩ := h
  exact ⟨a, n, c, rfl, own_block ho (fun b hb' => Below.heap_setCell _ _ _ _ (by have := (ho.lt b hb').1; omega)), hh⟩
theorem Own1.setRow {w : World} {lo hi k g : Nat} {v : Value} {L : Nat → List Value} (h : Own1 w lo hi k v L) (hp : g < lo) (c' : Array Value) : Own1 (w.setRow g c') lo hi k v L := by
  obtain ⟨a, n, c, rfl, ho, hh⟩ := h
  exact ⟨a, n, c, rfl, own_block ho (fun b hb' => _root_.Go.setRow_other _ _ _ _ (by have := (ho.lt b hb').1; omega)), hh⟩
theorem Own1.mk_ {w : World} {lo k n : Nat} {a : Option Addr} {c : Nat} {L : Nat → List Value} (ho : w.ownsRow lo (ety k) (esz k) (.slice a n c) n (L k)) : Own1 w lo w.heap.size k (.slice a n c) L :=
  ⟨a, n, c, rfl, ho, fun b hb => (ho.lt b hb).2⟩
theorem Own1.drew {w : World} {lo hi k : Nat} {v : Value} {L : Nat → List Value} (h : Own1 w lo hi k v L) : Own1 w.drew lo hi k v L := h
theorem blk_setCell {w : World} {g : Nat} {t : TypeId} {cs : Array Value} (h : Blk w g t cs) (i : Nat) (u : Value) : Blk (w.setCell ⟨g, i, none⟩ u) g t (cs.setIfInBounds i u) := by
  rw [setCell_eq_setRow w g i cs t (0, 0) u (by unfold Blk at h; exact h)]
  exact h.setRow _
theorem blk_setCell_other {w : World} {g : Nat} {t : TypeId} {cs : Array Value} (h : Blk w g t cs) {p : Addr} (hp : g ≠ p.block) (u : Value) : Blk (w.setCell p u) g t cs := by
  unfold Blk at h ⊢
  exact (Below.heap_setCell w p u g hp).trans h

/-- The state's cells are the clone's own: each slice in memory of its own. -/
structure Owned (w : World) (lo : Nat) (cs : Array Value) (L : Nat → List Value) : Prop where
  own : ∀ k, isSO k → ∃ a n c, cs[k]? = some (.slice a n c) ∧ w.ownsRow lo (ety k) (esz k) (.slice a n c) n (L k)
  apart : ∀ j k, isSO j → isSO k → j ≠ k → ∀ vj vk b, cs[j]? = some vj → cs[k]? = some vk → vj.ownBlock = some b → vk.ownBlock ≠ some b

theorem Own1.owned {w : World} {base lo hi k : Nat} {v : Value} {L : Nat → List Value} (h : Own1 w lo hi k v L) (hb : base ≤ lo) : ∃ a n c, v = .slice a n c ∧ w.ownsRow base (ety k) (esz k) (.slice a n c) n (L k) := by
  obtain ⟨a, n, c, rfl, ⟨h1, h2⟩, -⟩ := h
  refine ⟨a, n, c, rfl, h1, ?_⟩
  rcases h2 with h2 | ⟨g, cap, cur, hv, hg, hh, r⟩
  · exact .inl h2
  · exact .inr ⟨g, cap, cur, hv, Nat.le_trans hb hg, hh, r⟩
theorem Own1.range {w : World} {lo hi k : Nat} {v : Value} {L : Nat → List Value} (h : Own1 w lo hi k v L) {b : Nat} (hv : v.ownBlock = some b) : lo ≤ b ∧ b < hi := by
  obtain ⟨a, n, c, rfl, ho, hh⟩ := h
  exact ⟨(ho.lt b hv).1, hh b hv⟩
theorem esz_pos (k : Nat) : 0 < esz k := by unfold esz; split <;> first | omega | (split <;> first | omega | (split <;> omega))
theorem Own1.sl {w w0 : World} {lo hi k B n0 c0 : Nat} {a0 : Option Addr} {v : Value} {L : Nat → List Value} (h : Own1 w lo hi k v L) (hs : SlR w0 B (esz k) (eby k) a0 n0 c0 (L k)) : ∃ a n c, v = .slice a n c ∧ SlR w w.heap.size (esz k) (eby k) a n c (L k) := by
  obtain ⟨a, n, c, rfl, ho, -⟩ := h
  have e : n = n0 := Nat.eq_of_mul_eq_mul_right (esz_pos k) (ho.1.symm.trans hs.len)
  exact ⟨a, n, c, rfl, SlR.own ho (by rw [e]; exact hs.reach)⟩

theorem get_set_ne {cs : Array Value} {i k : Nat} {v : Value} (h : i ≠ k) : (cs.setIfInBounds i v)[k]? = cs[k]? := by rw [Array.getElem?_setIfInBounds, if_neg h]
theorem get_set_eq {cs : Array Value} {i : Nat} {v : Value} (h : i < cs.size) : (cs.setIfInBounds i v)[i]? = some v := by rw [Array.getElem?_setIfInBounds, if_pos rfl, if_pos h]
theorem own1_block {w w' : World} {lo hi k N g : Nat} {v : Value} {L : Nat → List Value} (h : Own1 w lo hi k v L) (h1 : g < lo) (h2 : hi ≤ N) (hf : ∀ b, b < N → b ≠ g → w'.heap[b]? = w.heap[b]?) : Own1 w' lo hi k v L := by
  obtain ⟨a, n, c, rfl, ho, hh⟩ := h
  exact ⟨a, n, c, rfl, own_block ho (fun b hb' => hf b (by have := hh b hb'; omega) (by have := (ho.lt b hb').1; omega)), hh⟩

theorem clone_close {w0 W : World} {cs cu : Array Value} {L : Nat → List Value} {B base : Nat} (H : IsSt w0 B cs L) (z1 : 1957 ≤ cu.size) (z2 : cu.size ≤ 1957) (E : ∀ k, ¬ isSO k → cu[k]? = cs[k]?)
    {v653 v719 v721 v722 v1092 v987 v988 : Value} (y653 : cu[653]? = some v653) (y719 : cu[719]? = some v719) (y721 : cu[721]? = some v721) (y722 : cu[722]? = some v722) (y1092 : cu[1092]? = some v1092) (y987 : cu[987]? = some v987) (y988 : cu[988]? = some v988)
    {x s653 s719 y s721 s722 s1092 z s987 s988 : Nat} (hx : base ≤ x) (g653 : x ≤ s653) (g719 : s653 ≤ s719) (gy : s719 ≤ y) (g721 : y ≤ s721) (g722 : s721 ≤ s722) (g1092 : s722 ≤ s1092) (gz : s1092 ≤ z) (g987 : z ≤ s987) (g988 : s987 ≤ s988)
    (P653 : Own1 W x s653 653 v653 L) (P719 : Own1 W s653 s719 719 v719 L) (P721 : Own1 W y s721 721 v721 L) (P722 : Own1 W s721 s722 722 v722 L) (P1092 : Own1 W s722 s1092 1092 v1092 L) (P987 : Own1 W z s987 987 v987 L) (P988 : Own1 W s987 s988 988 v988 L) :
    IsSt W W.heap.size cu L ∧ Owned W base cu L := by
  have key : ∀ k, isSO k → ∃ v lo hi, cu[k]? = some v ∧ base ≤ lo ∧ Own1 W lo hi k v L := by
    intro k hk
    rcases hk with rfl | rfl | rfl | rfl | rfl | rfl | rfl
    · exact ⟨_, _, _, y653, by omega, P653⟩
    · exact ⟨_, _, _, y719, by omega, P719⟩
    · exact ⟨_, _, _, y721, by omega, P721⟩
    · exact ⟨_, _, _, y722, by omega, P722⟩
    · exact ⟨_, _, _, y987, by omega, P987⟩
    · exact ⟨_, _, _, y988, by omega, P988⟩
    · exact ⟨_, _, _, y1092, by omega, P1092⟩
  have sl : ∀ k, isSO k → ∃ a n c, cu[k]? = some (.slice a n c) ∧ SlR W W.heap.size (esz k) (eby k) a n c (L k) := by
    intro k hk
    obtain ⟨v, lo, hi, hv, hlo, P⟩ := key k hk
    obtain ⟨a0, n0, c0, -, hs⟩ := H.sl k hk
    obtain ⟨a, n, c, rfl, s⟩ := P.sl hs
    exact ⟨a, n, c, hv, s⟩
  refine ⟨⟨⟨Nat.le_antisymm z2 z1, ?_⟩, sl, H.el⟩, ?_, ?_⟩
  · intro i v hv
    by_cases hk : isSO i
    · obtain ⟨a, n, c, hs, -⟩ := sl i hk
      rw [hs] at hv
      obtain rfl := Option.some.inj hv
      rcases hk with rfl | rfl | rfl | rfl | rfl | rfl | rfl <;> trivial
    · rw [E i hk] at hv
      exact H.wf.kind i v hv
  · intro k hk
    obtain ⟨v, lo, hi, hv, hlo, P⟩ := key k hk
    obtain ⟨a, n, c, rfl, s⟩ := P.owned hlo
    exact ⟨a, n, c, hv, s⟩
  · have rk : ∀ k, isSO k → ∀ v b, cu[k]? = some v → v.ownBlock = some b → (k = 653 ∧ x ≤ b ∧ b < s653) ∨ (k = 719 ∧ s653 ≤ b ∧ b < s719) ∨ (k = 721 ∧ y ≤ b ∧ b < s721) ∨ (k = 722 ∧ s721 ≤ b ∧ b < s722) ∨ (k = 1092 ∧ s722 ≤ b ∧ b < s1092) ∨ (k = 987 ∧ z ≤ b ∧ b < s987) ∨ (k = 988 ∧ s987 ≤ b ∧ b < s988) := by
      intro k hk v b hv hb
      rcases hk with rfl | rfl | rfl | rfl | rfl | rfl | rfl
      · rw [y653] at hv; cases hv; have := P653.range hb; omega
      · rw [y719] at hv; cases hv; have := P719.range hb; omega
      · rw [y721] at hv; cases hv; have := P721.range hb; omega
      · rw [y722] at hv; cases hv; have := P722.range hb; omega
      · rw [y987] at hv; cases hv; have := P987.range hb; omega
      · rw [y988] at hv; cases hv; have := P988.range hb; omega
      · rw [y1092] at hv; cases hv; have := P1092.range hb; omega
    intro j k hj hk hne vj vk b ej ek h1 h2
    have r1 := rk j hj vj b ej h1
    have r2 := rk k hk vk b ek h2
    rcases r1 with ⟨_, _, _⟩ | ⟨_, _, _⟩ | ⟨_, _, _⟩ | ⟨_, _, _⟩ | ⟨_, _, _⟩ | ⟨_, _, _⟩ | ⟨_, _, _⟩ <;> rcases r2 with ⟨_, _, _⟩ | ⟨_, _, _⟩ | ⟨_, _, _⟩ | ⟨_, _, _⟩ | ⟨_, _, _⟩ | ⟨_, _, _⟩ | ⟨_, _, _⟩ <;> omega

set_option maxHeartbeats 20000000 in
theorem clone_any (cs : Array Value) (L : Nat → List Value) (B : Nat) (w : World) (hB : B ≤ w.heap.size) (h : IsSt w B cs L) :
    Calls Try.prog 25 #[.agg cs] w fun e w' => ∃ cs', e = .returned (.agg cs') ∧ (∀ i, ¬ isSO i → cs'[i]? = cs[i]?) ∧ IsSt w' w'.heap.size cs' L ∧ Owned w' w.heap.size cs' L ∧ Below w.heap.size w w' := by
  obtain ⟨ah, nh, ch, h653, sh⟩ := h.sl 653 (by decide)
  obtain ⟨ao, no, co, h719, so⟩ := h.sl 719 (by decide)
  obtain ⟨av, nv, cv, h721, sv⟩ := h.sl 721 (by decide)
  obtain ⟨ab, nb, cb, h722, sb⟩ := h.sl 722 (by decide)
  obtain ⟨ap, np, cp, h987, sp⟩ := h.sl 987 (by decide)
  obtain ⟨ac, nc, cc, h988, sc⟩ := h.sl 988 (by decide)
  obtain ⟨as_, ns, cs_, h1092, ss⟩ := h.sl 1092 (by decide)
  have Sh := Lib.hid sh; have So := Lib.hid so; have Sv := Lib.hid sv; have Sb := Lib.hid sb; have Sp := Lib.hid sp; have Sc := Lib.hid sc; have Ss := Lib.hid ss
  have one : ∀ k, isSO k → ∀ u ∈ L k, u.oneCell' = true := fun k hk u hu => by
    obtain ⟨j, hj, rfl⟩ := List.mem_iff_getElem.1 hu
    exact CK.ok_one (h.el k hk j _ (List.getElem?_eq_getElem hj))
  have One := Lib.hid one
  have H := Lib.hid h
  have hsz1 : 1957 ≤ cs.size := Nat.le_of_eq h.wf.size.symm
  have hsz2 : cs.size ≤ 1957 := Nat.le_of_eq h.wf.size
  clear h one sh so sv sb sp sc ss
  go_enter Try.func25, Try.ntmps25
  go_wp2_with (first | ((with_reducible apply l_alloc 49); (focus kernel_rfl); (try go_frame)))
  simp only [World.size_alloc]
  obtain ⟨wx, hwx⟩ : ∃ wx : World, wx = (w.alloc (.cells cs 49)).alloc (.cells (zc Try.prog 49) 49) := ⟨_, rfl⟩
  have hbx : Below w.heap.size w wx := by rw [hwx]; exact (by (repeat (first | exact Below.refl _ _ | apply Below.drew | apply below_drewN | (refine Below.alloc ?_ ?_ _) | (refine below_setRow ?_ ?_ _) | (refine Below.setCell ?_ ?_ _) | (refine Below.trans ?_ (Below.mono (by assumption) ?_)) | omega | (focus (simp; done)) | (focus (simp; omega)))))
  have hkx : Blk wx w.heap.size 49 cs := by rw [hwx]; exact (by (repeat (first | assumption | (apply Blk.newAt; (focus (simp; done))) | apply Blk.alloc | apply Blk.setRow | apply Blk.drewN | apply Blk.drew | (refine Blk.setRow_other ?_ ?_ _; focus (first | omega | (simp; omega))))))
  have hzx : Blk wx (w.heap.size + 1) 49 (zc Try.prog 49) := by rw [hwx]; exact (by (repeat (first | assumption | (apply Blk.newAt; (focus (simp; done))) | apply Blk.alloc | apply Blk.setRow | apply Blk.drewN | apply Blk.drew | (refine Blk.setRow_other ?_ ?_ _; focus (first | omega | (simp; omega))))))
  have hgx : w.heap.size + 2 ≤ wx.heap.size := by rw [hwx]; simp
  rw [← hwx]
  clear hwx
  have hcell := hkx.cell
  have hfz := hkx.frozen
  go_cut [] (fun wq => ∃ v653 v719 : Value, ∃ s653 s719 : Nat, wx.heap.size ≤ s653 ∧ s653 ≤ s719 ∧ s719 ≤ wq.heap.size ∧ Own1 wq wx.heap.size s653 653 v653 L ∧ Own1 wq s653 s719 719 v719 L ∧ Blk wq w.heap.size 49 ((cs.setIfInBounds 653 v653).setIfInBounds 719 v719) ∧ Blk wq (w.heap.size + 1) 49 (zc Try.prog 49) ∧ (∀ b, b < wx.heap.size → b ≠ w.heap.size → wq.heap[b]? = wx.heap[b]?) ∧ Below w.heap.size w wq)
  case first =>
    go_region_with (first
      | (go_at_call 39
         refine (cloneRoot_any ah nh ch B (L 653) _ ?_ ?_ (One.out 653 (by decide))).mono ?_
         focus (first | omega | (simp; omega))
         focus (first | exact (Sh.out.below (Below.mono hbx hB)).drew | exact (Sh.out.below (Below.mono hbx hB)))
         rintro e w653 ⟨a653, c653, rfl, hown653, hc653⟩
         have hg653 : wx.heap.size ≤ w653.heap.size := hc653.size
         have hd653 : Below wx.heap.size wx w653 := ⟨hc653.os, hc653.tape, hc653.output, hc653.size, hc653.block⟩
         have hb653 : Below w.heap.size w w653 := Below.trans hbx (Below.mono hd653 (by omega))
         have hk653 : Blk w653 w.heap.size 49 cs := Blk.below hkx hd653 (by omega)
         have hz653 : Blk w653 (w.heap.size + 1) 49 (zc Try.prog 49) := Blk.below hzx hd653 (by omega)
         have O653 : Own1 w653 wx.heap.size w653.heap.size 653 (.slice a653 nh c653) L := Own1.mk_ hown653
         have hcl653 := hk653.cell
         have hfz653 := hk653.frozen)
      | (go_at_call 40
         refine (cloneEth1_any ao no co B (L 719) _ ?_ ?_ (One.out 719 (by decide))).mono ?_
         focus (first | omega | (simp; omega))
         focus (first | exact (So.out.below (Below.mono hb653 hB)).drew | exact (So.out.below (Below.mono hb653 hB)))
         rintro e w719 ⟨a719, c719, rfl, hown719, hc719⟩
         have hg719 : w653.heap.size ≤ w719.heap.size := hc719.size
         have hd719 : Below w653.heap.size w653 w719 := ⟨hc719.os, hc719.tape, hc719.output, hc719.size, hc719.block⟩
         have hb719 : Below w.heap.size w w719 := Below.trans hb653 (Below.mono hd719 (by omega))
         have hk719 : Blk w719 w.heap.size 49 cs := Blk.below hk653 hd719 (by omega)
         have hz719 : Blk w719 (w.heap.size + 1) 49 (zc Try.prog 49) := Blk.below hz653 hd719 (by omega)
         have O719 : Own1 w719 w653.heap.size w719.heap.size 719 (.slice a719 no c719) L := Own1.mk_ hown719
         have O653 := O653.below (Below.mono hd719 (by omega))
         have hcl719 := hk719.cell
         have hfz719 := hk719.frozen))
    all_goals (go_wp2_with fail; go_meet)
    all_goals refine ⟨_, _, _, _, hg653, hg719, ?_, ((O653.setCell (show w.heap.size < _ by omega) _).setCell (show w.heap.size < _ by omega) _), ((O719.setCell (show w.heap.size < _ by omega) _).setCell (show w.heap.size < _ by omega) _), (blk_setCell (blk_setCell hk719 _ _) _ _), (blk_setCell_other (blk_setCell_other hz719 (show w.heap.size + 1 ≠ w.heap.size by omega) _) (show w.heap.size + 1 ≠ w.heap.size by omega) _), ?_, ?_⟩
    all_goals first
      | (simp only [World.size_setCell, Nat.le_refl]; done)
      | (intro b hb hn; rw [Below.heap_setCell _ _ _ _ (show b ≠ w.heap.size from hn)]; rw [Below.heap_setCell _ _ _ _ (show b ≠ w.heap.size from hn)]; exact (hd719.block b (by omega)).trans (hd653.block b (by omega)))
      | (exact Below.setCell (Below.setCell hb719 (show w.heap.size ≤ w.heap.size by omega) _) (show w.heap.size ≤ w.heap.size by omega) _)
  case rest =>
  rename World => wy
  obtain ⟨v653, v719, s653, s719, g653, g719, gy, P653, P719, hky, hzy, fry, hby⟩ := hcut
  have hgy : w.heap.size + 2 ≤ wy.heap.size := by omega
  obtain ⟨cy, ey⟩ : ∃ c, c = ((cs.setIfInBounds 653 v653).setIfInBounds 719 v719) := ⟨_, rfl⟩
  rw [← ey] at hky
  have zy1 : 1957 ≤ cy.size := by rw [ey]; simp only [Array.size_setIfInBounds]; omega
  have zy2 : cy.size ≤ 1957 := by rw [ey]; simp only [Array.size_setIfInBounds]; omega
  have Ey : ∀ k, k ≠ 653 → k ≠ 719 → cy[k]? = cs[k]? := fun k n653 n719 => by rw [ey]; rw [get_set_ne (Ne.symm n719)]; rw [get_set_ne (Ne.symm n653)]
  have y653 : cy[653]? = some v653 := by rw [ey]; rw [get_set_ne (by decide)]; exact get_set_eq (by (try simp only [Array.size_setIfInBounds]); omega)
  have y719 : cy[719]? = some v719 := by rw [ey]; exact get_set_eq (by (try simp only [Array.size_setIfInBounds]); omega)
  have h721 : cy[721]? = some (.slice av nv cv) := by rw [Ey 721 (by decide) (by decide)]; exact h721
  have h722 : cy[722]? = some (.slice ab nb cb) := by rw [Ey 722 (by decide) (by decide)]; exact h722
  have h1092 : cy[1092]? = some (.slice as_ ns cs_) := by rw [Ey 1092 (by decide) (by decide)]; exact h1092
  have h987 : cy[987]? = some (.slice ap np cp) := by rw [Ey 987 (by decide) (by decide)]; exact h987
  have h988 : cy[988]? = some (.slice ac nc cc) := by rw [Ey 988 (by decide) (by decide)]; exact h988
  clear hcell hfz hkx hzx ey
  have HEy := Lib.hid Ey; clear Ey
  have Y653 := Lib.hid y653; have Y719 := Lib.hid y719; have Fry := Lib.hid fry; clear y653 y719 fry
  have hcell := hky.cell
  have hfz := hky.frozen
  go_upto_region 2 with fail
  go_cut [] (fun wq => ∃ v721 v722 v1092 : Value, ∃ s721 s722 s1092 : Nat, wy.heap.size ≤ s721 ∧ s721 ≤ s722 ∧ s722 ≤ s1092 ∧ s1092 ≤ wq.heap.size ∧ Own1 wq wy.heap.size s721 721 v721 L ∧ Own1 wq s721 s722 722 v722 L ∧ Own1 wq s722 s1092 1092 v1092 L ∧ Blk wq w.heap.size 49 (((cy.setIfInBounds 721 v721).setIfInBounds 722 v722).setIfInBounds 1092 v1092) ∧ Blk wq (w.heap.size + 1) 49 (zc Try.prog 49) ∧ (∀ b, b < wy.heap.size → b ≠ w.heap.size → wq.heap[b]? = wy.heap[b]?) ∧ Below w.heap.size w wq)
  case first =>
    go_region_with (first
      | (go_at_call 41
         refine (cloneVal_any av nv cv B (L 721) _ ?_ ?_ (One.out 721 (by decide))).mono ?_
         focus (first | omega | (simp; omega))
         focus (first | exact (Sv.out.below (Below.mono hby hB)).drew | exact (Sv.out.below (Below.mono hby hB)))
         rintro e w721 ⟨a721, c721, rfl, hown721, hc721⟩
         have hg721 : wy.heap.size ≤ w721.heap.size := hc721.size
         have hd721 : Below wy.heap.size wy w721 := ⟨hc721.os, hc721.tape, hc721.output, hc721.size, hc721.block⟩
         have hb721 : Below w.heap.size w w721 := Below.trans hby (Below.mono hd721 (by omega))
         have hk721 : Blk w721 w.heap.size 49 cy := Blk.below hky hd721 (by omega)
         have hz721 : Blk w721 (w.heap.size + 1) 49 (zc Try.prog 49) := Blk.below hzy hd721 (by omega)
         have O721 : Own1 w721 wy.heap.size w721.heap.size 721 (.slice a721 nv c721) L := Own1.mk_ hown721
         have hcl721 := hk721.cell
         have hfz721 := hk721.frozen)
      | (go_at_call 42
         refine (clone64_any ab nb cb B (L 722) _ ?_ ?_ (One.out 722 (by decide))).mono ?_
         focus (first | omega | (simp; omega))
         focus (first | exact (Sb.out.below (Below.mono hb721 hB)).drew | exact (Sb.out.below (Below.mono hb721 hB)))
         rintro e w722 ⟨a722, c722, rfl, hown722, hc722⟩
         have hg722 : w721.heap.size ≤ w722.heap.size := hc722.size
         have hd722 : Below w721.heap.size w721 w722 := ⟨hc722.os, hc722.tape, hc722.output, hc722.size, hc722.block⟩
         have hb722 : Below w.heap.size w w722 := Below.trans hb721 (Below.mono hd722 (by omega))
         have hk722 : Blk w722 w.heap.size 49 cy := Blk.below hk721 hd722 (by omega)
         have hz722 : Blk w722 (w.heap.size + 1) 49 (zc Try.prog 49) := Blk.below hz721 hd722 (by omega)
         have O722 : Own1 w722 w721.heap.size w722.heap.size 722 (.slice a722 nb c722) L := Own1.mk_ hown722
         have O721 := O721.below (Below.mono hd722 (by omega))
         have hcl722 := hk722.cell
         have hfz722 := hk722.frozen)
      | (go_at_call 42
         refine (clone64_any as_ ns cs_ B (L 1092) _ ?_ ?_ (One.out 1092 (by decide))).mono ?_
         focus (first | omega | (simp; omega))
         focus (first | exact (Ss.out.below (Below.mono hb722 hB)).drew | exact (Ss.out.below (Below.mono hb722 hB)))
         rintro e w1092 ⟨a1092, c1092, rfl, hown1092, hc1092⟩
         have hg1092 : w722.heap.size ≤ w1092.heap.size := hc1092.size
         have hd1092 : Below w722.heap.size w722 w1092 := ⟨hc1092.os, hc1092.tape, hc1092.output, hc1092.size, hc1092.block⟩
         have hb1092 : Below w.heap.size w w1092 := Below.trans hb722 (Below.mono hd1092 (by omega))
         have hk1092 : Blk w1092 w.heap.size 49 cy := Blk.below hk722 hd1092 (by omega)
         have hz1092 : Blk w1092 (w.heap.size + 1) 49 (zc Try.prog 49) := Blk.below hz722 hd1092 (by omega)
         have O1092 : Own1 w1092 w722.heap.size w1092.heap.size 1092 (.slice a1092 ns c1092) L := Own1.mk_ hown1092
         have O721 := O721.below (Below.mono hd1092 (by omega))
         have O722 := O722.below (Below.mono hd1092 (by omega))
         have hcl1092 := hk1092.cell
         have hfz1092 := hk1092.frozen))
    all_goals (go_wp2_with fail; go_meet)
    all_goals refine ⟨_, _, _, _, _, _, hg721, hg722, hg1092, ?_, (((O721.setCell (show w.heap.size < _ by omega) _).setCell (show w.heap.size < _ by omega) _).setCell (show w.heap.size < _ by omega) _), (((O722.setCell (show w.heap.size < _ by omega) _).setCell (show w.heap.size < _ by omega) _).setCell (show w.heap.size < _ by omega) _), (((O1092.setCell (show w.heap.size < _ by omega) _).setCell (show w.heap.size < _ by omega) _).setCell (show w.heap.size < _ by omega) _), (blk_setCell (blk_setCell (blk_setCell hk1092 _ _) _ _) _ _), (blk_setCell_other (blk_setCell_other (blk_setCell_other hz1092 (show w.heap.size + 1 ≠ w.heap.size by omega) _) (show w.heap.size + 1 ≠ w.heap.size by omega) _) (show w.heap.size + 1 ≠ w.heap.size by omega) _), ?_, ?_⟩
    all_goals first
      | (simp only [World.size_setCell, Nat.le_refl]; done)
      | (intro b hb hn; rw [Below.heap_setCell _ _ _ _ (show b ≠ w.heap.size from hn)]; rw [Below.heap_setCell _ _ _ _ (show b ≠ w.heap.size from hn)]; rw [Below.heap_setCell _ _ _ _ (show b ≠ w.heap.size from hn)]; exact (hd1092.block b (by omega)).trans ((hd722.block b (by omega)).trans (hd721.block b (by omega))))
      | (exact Below.setCell (Below.setCell (Below.setCell hb1092 (show w.heap.size ≤ w.heap.size by omega) _) (show w.heap.size ≤ w.heap.size by omega) _) (show w.heap.size ≤ w.heap.size by omega) _)
  case rest =>
  rename World => wz
  obtain ⟨v721, v722, v1092, s721, s722, s1092, g721, g722, g1092, gz, P721, P722, P1092, hkz, hzz, frz, hbz⟩ := hcut
  have hgz : w.heap.size + 2 ≤ wz.heap.size := by omega
  obtain ⟨cz, ez⟩ : ∃ c, c = (((cy.setIfInBounds 721 v721).setIfInBounds 722 v722).setIfInBounds 1092 v1092) := ⟨_, rfl⟩
  rw [← ez] at hkz
  have zz1 : 1957 ≤ cz.size := by rw [ez]; simp only [Array.size_setIfInBounds]; omega
  have zz2 : cz.size ≤ 1957 := by rw [ez]; simp only [Array.size_setIfInBounds]; omega
  have Ez : ∀ k, k ≠ 721 → k ≠ 722 → k ≠ 1092 → cz[k]? = cy[k]? := fun k n721 n722 n1092 => by rw [ez]; rw [get_set_ne (Ne.symm n1092)]; rw [get_set_ne (Ne.symm n722)]; rw [get_set_ne (Ne.symm n721)]
  have y721 : cz[721]? = some v721 := by rw [ez]; rw [get_set_ne (by decide)]; rw [get_set_ne (by decide)]; exact get_set_eq (by (try simp only [Array.size_setIfInBounds]); omega)
  have y722 : cz[722]? = some v722 := by rw [ez]; rw [get_set_ne (by decide)]; exact get_set_eq (by (try simp only [Array.size_setIfInBounds]); omega)
  have y1092 : cz[1092]? = some v1092 := by rw [ez]; exact get_set_eq (by (try simp only [Array.size_setIfInBounds]); omega)
  have h987 : cz[987]? = some (.slice ap np cp) := by rw [Ez 987 (by decide) (by decide) (by decide)]; exact h987
  have h988 : cz[988]? = some (.slice ac nc cc) := by rw [Ez 988 (by decide) (by decide) (by decide)]; exact h988
  have y653 : cz[653]? = some v653 := by rw [Ez 653 (by decide) (by decide) (by decide)]; exact Y653.out
  have y719 : cz[719]? = some v719 := by rw [Ez 719 (by decide) (by decide) (by decide)]; exact Y719.out
  have P653 := own1_block P653 (by omega) (by omega) frz
  have P719 := own1_block P719 (by omega) (by omega) frz
  have E2 : ∀ k, ¬ isSO k → cz[k]? = cs[k]? := fun k hk => by rw [Ez k (fun h => hk (by subst h; decide)) (fun h => hk (by subst h; decide)) (fun h => hk (by subst h; decide)), HEy.out k (fun h => hk (by subst h; decide)) (fun h => hk (by subst h; decide))]
  clear ez Ez frz Y653 Y719 Fry HEy hcell hfz hky hzy
  have Y653 := Lib.hid y653; have Y719 := Lib.hid y719; have Y721 := Lib.hid y721; have Y722 := Lib.hid y722; have Y1092 := Lib.hid y1092; have HE := Lib.hid E2; clear E2 y653 y719 y721 y722 y1092
  have hcell := hkz.cell
  have hfz := hkz.frozen
  go_upto_region 3 with fail
  go_cut [] (fun wq => ∃ v987 v988 : Value, ∃ s987 s988 : Nat, wz.heap.size ≤ s987 ∧ s987 ≤ s988 ∧ s988 ≤ wq.heap.size ∧ Own1 wq wz.heap.size s987 987 v987 L ∧ Own1 wq s987 s988 988 v988 L ∧ Blk wq w.heap.size 49 ((cz.setIfInBounds 987 v987).setIfInBounds 988 v988) ∧ Blk wq (w.heap.size + 1) 49 (zc Try.prog 49) ∧ (∀ b, b < wz.heap.size → b ≠ w.heap.size → wq.heap[b]? = wz.heap[b]?) ∧ Below w.heap.size w wq)
  case first =>
    go_region_with (first
      | (go_at_call 43
         refine (clone8_any ap np cp B (L 987) _ ?_ ?_ (One.out 987 (by decide))).mono ?_
         focus (first | omega | (simp; omega))
         focus (first | exact (Sp.out.below (Below.mono hbz hB)).drew | exact (Sp.out.below (Below.mono hbz hB)))
         rintro e w987 ⟨a987, c987, rfl, hown987, hc987⟩
         have hg987 : wz.heap.size ≤ w987.heap.size := hc987.size
         have hd987 : Below wz.heap.size wz w987 := ⟨hc987.os, hc987.tape, hc987.output, hc987.size, hc987.block⟩
         have hb987 : Below w.heap.size w w987 := Below.trans hbz (Below.mono hd987 (by omega))
         have hk987 : Blk w987 w.heap.size 49 cz := Blk.below hkz hd987 (by omega)
         have hz987 : Blk w987 (w.heap.size + 1) 49 (zc Try.prog 49) := Blk.below hzz hd987 (by omega)
         have O987 : Own1 w987 wz.heap.size w987.heap.size 987 (.slice a987 np c987) L := Own1.mk_ hown987
         have hcl987 := hk987.cell
         have hfz987 := hk987.frozen)
      | (go_at_call 43
         refine (clone8_any ac nc cc B (L 988) _ ?_ ?_ (One.out 988 (by decide))).mono ?_
         focus (first | omega | (simp; omega))
         focus (first | exact (Sc.out.below (Below.mono hb987 hB)).drew | exact (Sc.out.below (Below.mono hb987 hB)))
         rintro e w988 ⟨a988, c988, rfl, hown988, hc988⟩
         have hg988 : w987.heap.size ≤ w988.heap.size := hc988.size
         have hd988 : Below w987.heap.size w987 w988 := ⟨hc988.os, hc988.tape, hc988.output, hc988.size, hc988.block⟩
         have hb988 : Below w.heap.size w w988 := Below.trans hb987 (Below.mono hd988 (by omega))
         have hk988 : Blk w988 w.heap.size 49 cz := Blk.below hk987 hd988 (by omega)
         have hz988 : Blk w988 (w.heap.size + 1) 49 (zc Try.prog 49) := Blk.below hz987 hd988 (by omega)
         have O988 : Own1 w988 w987.heap.size w988.heap.size 988 (.slice a988 nc c988) L := Own1.mk_ hown988
         have O987 := O987.below (Below.mono hd988 (by omega))
         have hcl988 := hk988.cell
         have hfz988 := hk988.frozen))
    all_goals (go_wp2_with fail; go_meet)
    all_goals refine ⟨_, _, _, _, hg987, hg988, ?_, ((O987.setCell (show w.heap.size < _ by omega) _).setCell (show w.heap.size < _ by omega) _), ((O988.setCell (show w.heap.size < _ by omega) _).setCell (show w.heap.size < _ by omega) _), (blk_setCell (blk_setCell hk988 _ _) _ _), (blk_setCell_other (blk_setCell_other hz988 (show w.heap.size + 1 ≠ w.heap.size by omega) _) (show w.heap.size + 1 ≠ w.heap.size by omega) _), ?_, ?_⟩
    all_goals first
      | (simp only [World.size_setCell, Nat.le_refl]; done)
      | (intro b hb hn; rw [Below.heap_setCell _ _ _ _ (show b ≠ w.heap.size from hn)]; rw [Below.heap_setCell _ _ _ _ (show b ≠ w.heap.size from hn)]; exact (hd988.block b (by omega)).trans (hd987.block b (by omega)))
      | (exact Below.setCell (Below.setCell hb988 (show w.heap.size ≤ w.heap.size by omega) _) (show w.heap.size ≤ w.heap.size by omega) _)
  case rest =>
  rename World => wu
  obtain ⟨v987, v988, s987, s988, g987, g988, gu, P987, P988, hku, hzu, fru, hbu⟩ := hcut
  have hgu : w.heap.size + 2 ≤ wu.heap.size := by omega
  obtain ⟨cu, eu⟩ : ∃ c, c = ((cz.setIfInBounds 987 v987).setIfInBounds 988 v988) := ⟨_, rfl⟩
  rw [← eu] at hku
  have zu1 : 1957 ≤ cu.size := by rw [eu]; simp only [Array.size_setIfInBounds]; omega
  have zu2 : cu.size ≤ 1957 := by rw [eu]; simp only [Array.size_setIfInBounds]; omega
  have Eu : ∀ k, k ≠ 987 → k ≠ 988 → cu[k]? = cz[k]? := fun k n987 n988 => by rw [eu]; rw [get_set_ne (Ne.symm n988)]; rw [get_set_ne (Ne.symm n987)]
  have y987 : cu[987]? = some v987 := by rw [eu]; rw [get_set_ne (by decide)]; exact get_set_eq (by (try simp only [Array.size_setIfInBounds]); omega)
  have y988 : cu[988]? = some v988 := by rw [eu]; exact get_set_eq (by (try simp only [Array.size_setIfInBounds]); omega)
  have y653 : cu[653]? = some v653 := by rw [Eu 653 (by decide) (by decide)]; exact Y653.out
  have P653 := own1_block P653 (by omega) (by omega) fru
  have y719 : cu[719]? = some v719 := by rw [Eu 719 (by decide) (by decide)]; exact Y719.out
  have P719 := own1_block P719 (by omega) (by omega) fru
  have y721 : cu[721]? = some v721 := by rw [Eu 721 (by decide) (by decide)]; exact Y721.out
  have P721 := own1_block P721 (by omega) (by omega) fru
  have y722 : cu[722]? = some v722 := by rw [Eu 722 (by decide) (by decide)]; exact Y722.out
  have P722 := own1_block P722 (by omega) (by omega) fru
  have y1092 : cu[1092]? = some v1092 := by rw [Eu 1092 (by decide) (by decide)]; exact Y1092.out
  have P1092 := own1_block P1092 (by omega) (by omega) fru
  have E3 : ∀ k, ¬ isSO k → cu[k]? = cs[k]? := fun k hk => by rw [Eu k (fun h => hk (by subst h; decide)) (fun h => hk (by subst h; decide)), HE.out k hk]
  clear eu Eu fru HE hcell hfz hkz hzz Y653 Y719 Y721 Y722 Y1092
  obtain ⟨hst, how⟩ := clone_close (base := w.heap.size) H.out zu1 zu2 E3 y653 y719 y721 y722 y1092 y987 y988 (by omega) g653 g719 gy g721 g722 g1092 gz g987 g988 (P653.setRow (g := w.heap.size + 1) (by omega) cu) (P719.setRow (g := w.heap.size + 1) (by omega) cu) (P721.setRow (g := w.heap.size + 1) (by omega) cu) (P722.setRow (g := w.heap.size + 1) (by omega) cu) (P1092.setRow (g := w.heap.size + 1) (by omega) cu) (P987.setRow (g := w.heap.size + 1) (by omega) cu) (P988.setRow (g := w.heap.size + 1) (by omega) cu)
  have Hones := Lib.hid hst.wf.ones
  have Fin_ := Lib.hid (And.intro E3 (And.intro hst how))
  clear E3 y653 y719 y721 y722 y1092 y987 y988 hst how P653 P719 P721 P722 P1092 P987 P988
  go_wp2_with (first | ((with_reducible apply l_loadw 49); (focus rfl); (focus (repeat (first | assumption | (apply Blk.newAt; (focus (simp; done))) | apply Blk.alloc | apply Blk.setRow | apply Blk.drewN | apply Blk.drew | (refine Blk.setRow_other ?_ ?_ _; focus (first | omega | (simp; omega)))))); (focus exact Try.underlying49); (focus rfl); (focus exact szState); (focus (first | exact omega | (first | omega | (simp; done) | (simp; omega) | assumption))); (try go_frame)) | ((with_reducible apply l_storew 49); (focus rfl); (focus rfl); (focus (repeat (first | assumption | (apply Blk.newAt; (focus (simp; done))) | apply Blk.alloc | apply Blk.setRow | apply Blk.drewN | apply Blk.drew | (refine Blk.setRow_other ?_ ?_ _; focus (first | omega | (simp; omega)))))); (focus exact szState); (focus (first | exact omega | (first | omega | (simp; done) | (simp; omega) | assumption))); (focus (first | omega | (simp; done) | (simp; omega) | assumption)); (focus exact Hones.out); (focus (repeat (first | (apply setRow_eq_at; (focus (simp; done))) | (refine setRow_eq_past ?_ ?_; (focus (first | (simp; done) | omega | (simp; omega)))) | apply setRow_eq_drewN | apply setRow_eq_drew | rfl))); (try go_frame)) | ((with_reducible apply l_ret); (focus rfl); (focus rfl); (focus (repeat (first | assumption | (apply Blk.newAt; (focus (simp; done))) | apply Blk.alloc | apply Blk.setRow | apply Blk.drewN | apply Blk.drew | (refine Blk.setRow_other ?_ ?_ _; focus (first | omega | (simp; omega)))))); (focus exact Try.underlying49); (focus rfl); (focus exact szState); (focus (first | exact omega | (first | omega | (simp; done) | (simp; omega) | assumption))); (focus rfl)))
  exact ⟨cu, rfl, Fin_.out.1, Fin_.out.2.1, Fin_.out.2.2, below_setRow hbu (by omega) _⟩

end Go.Proofs.Ytikbkcidalippaa
