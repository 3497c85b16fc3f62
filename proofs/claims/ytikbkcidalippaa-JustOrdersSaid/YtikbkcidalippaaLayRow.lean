/-
  Lay over a list of parts.
-/
import Derived.Test.YtikbkcidalippaaLayGo
namespace Go.Proofs.Ytikbkcidalippaa
open Go.RowKit
attribute [local irreducible] Hid Blk
set_option maxRecDepth 100000

/-- A part as Lay takes it: where it lies, and its size in the layout (0: of its own length). -/
structure Pt where
  a : Option Addr
  m : Nat
  c : Nat
  s : Nat
  X : List Value
def Pt.v (p : Pt) : Value := .slice p.a p.m p.c
def Pt.n (p : Pt) : Value := .int .i64 p.s
def ly (L : List Pt) : List Value := layB (fun j => (L[j]?.map Pt.X).getD []) (fun j => (L[j]?.map Pt.s).getD 0) L.length
/-- A part fit to be laid. -/
def Pt.fit (w : World) (p : Pt) : Prop := SlR w w.heap.size 1 1 p.a p.m p.c p.X ∧ (∀ u ∈ p.X, u.oneCell' = true) ∧ (p.s ≠ 0 → p.m = p.s) ∧ p.m ≤ 16777216 ∧ p.s ≤ 65536
theorem fit_mk {w : World} {a : Option Addr} {m c s : Nat} {X : List Value} (h : SlR w w.heap.size 1 1 a m c X) (h1 : ∀ u ∈ X, u.oneCell' = true) (h2 : s ≠ 0 → m = s) (h3 : m ≤ 16777216) (h4 : s ≤ 65536) : Pt.fit w ⟨a, m, c, s, X⟩ := ⟨h, h1, h2, h3, h4⟩

theorem lay_rows (L : List Pt) (w : World) (n : Nat) (pv sv : Array Value) (t1 t2 : TypeId) (b2 : Nat) (hpv : pv = (L.map Pt.v).toArray) (hsv : sv = (L.map Pt.n).toArray) (hn : L.length = n) (h1 : 1 ≤ n) (h64 : n ≤ 64) (hb2 : b2 = w.heap.size + 1)
    (hL : ∀ p ∈ L, p.fit w) :
    Calls Try.prog 53 #[.slice (some ⟨w.heap.size, 0, none⟩) n n, .slice (some ⟨b2, 0, none⟩) n n] ((w.alloc (.cells pv t1)).alloc (.cells sv t2)) fun e w' => ∃ v, e = .returned (.tuple #[v, .int .i64 0]) ∧ w'.ownsRow w.heap.size 5 1 v (ly L).length (ly L) ∧ Below w.heap.size w w' := by
  subst hpv; subst hsv; subst hn; subst hb2
  have k1 : Blk (w.alloc (.cells (L.map Pt.v).toArray t1)) w.heap.size t1 (L.map Pt.v).toArray := Blk.new _ _ _
  have k2 := k1.alloc (.cells (L.map Pt.n).toArray t2)
  have hz1 : (w.alloc (.cells (L.map Pt.v).toArray t1)).heap.size = w.heap.size + 1 := by simp
  have k3 := Blk.newAt (w := w.alloc (.cells (L.map Pt.v).toArray t1)) (t := t2) (cs := (L.map Pt.n).toArray) hz1.symm
  have B1 : Below w.heap.size w (w.alloc (.cells (L.map Pt.v).toArray t1)) := (Below.refl _ _).alloc (Nat.le_refl _) _
  have B2 : Below w.heap.size w ((w.alloc (.cells (L.map Pt.v).toArray t1)).alloc (.cells (L.map Pt.n).toArray t2)) := B1.alloc (by omega) _
  have hz2 : ((w.alloc (.cells (L.map Pt.v).toArray t1)).alloc (.cells (L.map Pt.n).toArray t2)).heap.size = w.heap.size + 2 := by simp
  generalize hW : ((w.alloc (.cells (L.map Pt.v).toArray t1)).alloc (.cells (L.map Pt.n).toArray t2)) = W at *
  refine (lay_any w.heap.size 0 L.length (w.heap.size + 1) 0 L.length L.length (fun j => (L[j]?.map Pt.X).getD []) (fun j => (L[j]?.map Pt.s).getD 0) (fun j => (L[j]?.map Pt.v).getD undef) W h1 h64 (by omega) (by omega) ?_ ?_ ?_ ?_).mono ?_
  · intro j hj
    rw [k3.cell, Nat.zero_add]
    simp [Pt.n, hj]
  · intro j hj
    have := (hL L[j] (List.getElem_mem hj)).2.2.2.2
    simpa [hj] using this
  · intro j hj
    rw [k2.cell, Nat.zero_add]
    simp [hj]
  · intro j hj
    obtain ⟨f1, f2, f3, f4, f5⟩ := hL L[j] (List.getElem_mem hj)
    refine ⟨L[j].a, L[j].m, L[j].c, by simp [hj, Pt.v], ?_, ?_, ?_, f4⟩
    · have := (f1.below B2).more (B' := W.heap.size) (by omega)
      simpa [hj] using this
    · simpa [hj] using f2
    · simpa [hj] using f3
  · rintro e w' ⟨v, rfl, h, hb⟩
    exact ⟨v, rfl, own_weak h (by omega), B2.trans (hb.mono (by omega))⟩
end Go.Proofs.Ytikbkcidalippaa
