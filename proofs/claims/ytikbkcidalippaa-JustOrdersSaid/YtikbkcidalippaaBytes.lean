/-
  Numbers as bytes: pharosref01.Bytes, the two 'number's, flag, four: walked. An append whose block is told.
-/
import Derived.Test.YtikbkcidalippaaFlagLaw
import Derived.Maps.AppendAt
import Derived.Deep.DeepCutAuto
import Derived.Test.YtikbkcidalippaaReg
import Derived.Test.YtikbkcidalippaaClone
namespace Go.Proofs.Ytikbkcidalippaa
open Go.RowKit
attribute [local irreducible] Hid Blk
set_option maxRecDepth 100000

section
variable {P : Program} {ops : Array Oper} {rest : List Oper} {a : Act} {w : World} {Q : Exit → Act → World → Prop} {dst : Option Tmp} {tt : TypeId} {pos : String} {af : Array Edge}
/-- append(v, x...), as l_append has it; and which block it then is. -/
theorem l_append2 (t : TypeId) {s x : Operand} (base : Nat) {e : TypeId} {i : TypeInfo} {z : Value} {size bytes : Nat} (ht : P.underlying t = some (.slice e)) (hi : P.info? e = some i) (hz : i.zero = some z)
    (hsize : i.size = size) (hby : i.bytes = bytes) (hzs : z.cells.size = size) (hsz : 0 < size)
    {v : Value} (hs : a.eval s = v) {n0 : Nat} {xs0 : List Value} (hown : w.ownsRow base e size v n0 xs0)
    {A : Option Addr} {n c : Nat} (hx : a.eval x = .slice A n c) {B bts : Nat} {xs : List Value} (hsl : SlR w B size bts A n c xs) (h1 : ∀ u ∈ xs, u.oneCell' = true)
    (hb : (n0 + n) * bytes ≤ 140737488355328) (hm : n0 + n ≤ 9223372036854775807) (hbase : base ≤ w.heap.size)
    (h : ∀ v' w', w'.ownsRow base e size v' (n0 + n) (xs0 ++ xs) → w.grownBy w' v.ownBlock → (v'.ownBlock = v.ownBlock ∨ v'.ownBlock = some w.heap.size) → wpList P ops Q rest (a.put dst v') w') :
    wpList P ops Q (⟨dst, .call { callee := .builtin .append, args := #[s, x], argTypes := #[t, t] }, tt, pos, af, none⟩ :: rest) a w := by
  cases A with
  | none =>
    obtain ⟨rfl, rfl⟩ := hsl.nil rfl
    have hxs : xs = [] := List.eq_nil_of_length_eq_zero (by rw [hsl.len]; simp)
    subst hxs
    exact wpList_append_own_none rfl s x t rfl base e i size ht hi v n0 xs0 hs hown hx (h v w (by simpa using hown) ⟨rfl, rfl, rfl, Nat.le_refl _, fun _ _ _ => rfl⟩ (.inl rfl))
  | some ad =>
    have hnews : ∀ (j : Nat) u, xs[j]? = some u → w.cell? (ad.add j) = some u := by
      intro j u hu
      rcases Nat.eq_zero_or_pos n with hn | hn
      · have := hsl.len
        rw [hn] at this
        have hxs : xs = [] := List.eq_nil_of_length_eq_zero (by rw [this]; simp)
        subst hxs
        simp at hu
      · obtain ⟨b, o, e1, _, hc⟩ := hsl.cells hn
        simp only [Option.some.injEq] at e1
        subst e1
        rw [Addr.add_mid]
        exact hc j u hu
    refine wpList_plain rfl fun K hK => ?_
    obtain ⟨v', w', hr, h2, h3, _, h5⟩ := run_append_own_at (P := P) w base t tt e i z size bytes ht hi hz hsize hby hzs hsz v n0 xs0 hown ad n c xs hsl.len hnews h1 (by unfold maxLen; exact hm) hb hbase
    unfold Oper.wp execOp
    simp only [resolve, invoke, builtin, Sem.run_bind, Sem.run_pure, Result.andThen_ok, List.map_toArray, List.map_cons, List.map_nil, hs, hx, hr]
    exact hK _ _ (h v' w' h2 h3 h5)
end

/-- A number's bytes, the lowest first. -/
def byteN (n : Int) (k : Nat) : Int := n / 2 ^ (8 * k) % 256
def num8 (n : Int) : List Value := (List.range 8).map fun k => .int .u8 (byteN n k)
theorem num8_len (n : Int) : (num8 n).length = 8 := by simp [num8]
theorem szB8 : (Try.prog.info? 108).map (·.size) = some 8 := by kernel_rfl
@[simp] theorem szzB8 : (zc Try.prog 108).size = 8 := by kernel_rfl

theorem b8_step {n v : Int} {k : Nat} {C : Array Value} (hk : k < 8) (h8 : C.size = 8) (h1 : C.all (·.oneCell') = true) (hc : ∀ j, j < k → C[j]? = some (.int .u8 (byteN n j))) (hv : v = byteN n k) :
    (C.setIfInBounds k (.int .u8 v)).size = 8 ∧ (C.setIfInBounds k (.int .u8 v)).all (·.oneCell') = true ∧ ∀ j, j < k + 1 → (C.setIfInBounds k (.int .u8 v))[j]? = some (.int .u8 (byteN n j)) := by
  refine ⟨by simpa using h8, ?_, fun j hj => ?_⟩
  · rw [Array.all_eq_true_iff_forall_mem] at h1 ⊢
    intro u hu
    obtain ⟨i, hi, e⟩ := Array.mem_iff_getElem.1 hu
    rw [Array.getElem_setIfInBounds (by simpa using hi)] at e
    split at e
    · rw [← e]; rfl
    · rw [← e]; exact h1 _ (Array.getElem_mem _)
  · rw [Array.getElem?_setIfInBounds]
    split
    · rename_i h; subst h; rw [if_pos (by omega), hv]
    · exact hc j (by omega)
theorem b8_end {n : Int} {C : Array Value} (h8 : C.size = 8) (hc : ∀ j, j < 8 → C[j]? = some (.int .u8 (byteN n j))) : C = (num8 n).toArray := by
  apply Array.ext_getElem?
  intro i
  by_cases hi : i < 8
  · rw [hc i hi]; simp [num8, hi]
  · rw [Array.getElem?_eq_none (by omega), Array.getElem?_eq_none (by simp [num8]; omega)]
theorem num8_ones (n : Int) : ∀ u ∈ num8 n, u.oneCell' = true := by
  intro u hu
  obtain ⟨k, -, rfl⟩ := List.mem_map.1 hu
  rfl

set_option maxHeartbeats 1000000 in
theorem rbytes_any (n : Int) (h : W64 n) (w : World) : Calls Try.prog 57 #[.int .u64 n] w fun e w' => e = .returned (.agg (num8 n).toArray) ∧ Below w.heap.size w w' := by
  obtain ⟨_, _⟩ := h
  go_enter Try.func57, Try.ntmps57
  go_upto_region 2 with ((with_reducible apply l_alloc 108); (focus kernel_rfl); (try go_frame))
  simp only [World.size_alloc]
  have hz8 : (zc Try.prog 108).size = 8 := szzB8
  have hzo : (zc Try.prog 108).all (·.oneCell') = true := by kernel_rfl
  have Hzo := Lib.hid hzo
  generalize zc Try.prog 108 = Z at *
  obtain ⟨wx, hwx⟩ : ∃ wx : World, wx = (w.alloc (.cells Z 108)).alloc (.cells Z 108) := ⟨_, rfl⟩
  have hbx : Hid (Below w.heap.size w wx) := Lib.hid (by rw [hwx]; exact (by (repeat (first | exact Below.refl _ _ | apply Below.drew | apply below_drewN | (refine Below.alloc ?_ ?_ _) | (refine below_setRow ?_ ?_ _) | (refine Below.setCell ?_ ?_ _) | (refine Below.trans ?_ (Below.mono (by assumption) ?_)) | omega | (focus (simp; done)) | (focus (simp; omega))))))
  have hk2 : Hid (Blk wx w.heap.size 108 Z) := Lib.hid (by rw [hwx]; exact (by (repeat (first | assumption | (apply Blk.newAt; (focus (simp; done))) | apply Blk.alloc | apply Blk.setRow | apply Blk.drewN | apply Blk.drew | (refine Blk.setRow_other ?_ ?_ _; focus (first | omega | (simp; omega)))))))
  have hk3 : Hid (Blk wx (w.heap.size + 1) 108 Z) := Lib.hid (by rw [hwx]; exact (by (repeat (first | assumption | (apply Blk.newAt; (focus (simp; done))) | apply Blk.alloc | apply Blk.setRow | apply Blk.drewN | apply Blk.drew | (refine Blk.setRow_other ?_ ?_ _; focus (first | omega | (simp; omega)))))))
  rw [← hwx]
  clear hwx
  have hZ8 := Lib.hid hz8
  have hzl : 8 ≤ Z.size := Nat.le_of_eq hz8.symm
  have hzm : Z.size ≤ 8 := Nat.le_of_eq hz8
  clear hz8 hzo
  go_wp2
  go_loopw [4] (fun i wr => ∃ (k : Nat) (C : Array Value), k ≤ 8 ∧ i = .int .i64 k ∧ Hid (C.size = 8) ∧ Hid (C.all (·.oneCell') = true) ∧ Hid (∀ j, j < k → C[j]? = some (.int .u8 (byteN n j))) ∧ Hid (Below w.heap.size w wr) ∧ Hid (Blk wr w.heap.size 108 Z) ∧ Hid (Blk wr (w.heap.size + 1) 108 C)) (fun i _ => 8 - (intOf i).toNat)
  case atStart => exact ⟨0, Z, by omega, rfl, hZ8, Hzo, Lib.hid (fun j hj => absurd hj (by omega)), hbx, hk2, hk3⟩
  case round =>
    obtain ⟨k, C, hk, rfl, h8, h1, hc, hb, h2, h3⟩ := hrel
    by_cases hlt : k < 8
    · have hbl := h3.out
      have hcell := hbl.cell
      have hfz := hbl.frozen
      have hco : ∃ u, C[k]? = some u := ⟨C[k]'(by rw [h8.out]; exact hlt), Array.getElem?_eq_getElem _⟩
      obtain ⟨u0, hu0⟩ := hco
      clear hbl
      obtain rfl | rfl | rfl | rfl | rfl | rfl | rfl | rfl : k = 0 ∨ k = 1 ∨ k = 2 ∨ k = 3 ∨ k = 4 ∨ k = 5 ∨ k = 6 ∨ k = 7 := by omega
      · go_wp2
        obtain ⟨n8, n1, nc⟩ := b8_step (n := n) (v := n % 256) (k := 0) (by decide) h8.out h1.out hc.out (by unfold byteN; simp)
        go_roundw
        case rel => exact ⟨1, _, by omega, rfl, Lib.hid n8, Lib.hid n1, Lib.hid nc, Lib.hid (hb.out.setCell (by show w.heap.size ≤ w.heap.size + 1; omega) _), Lib.hid (blk_setCell_other h2.out (show w.heap.size ≠ w.heap.size + 1 by omega) _), Lib.hid (blk_setCell h3.out 0 _)⟩
        case measure => decide
      · go_wp2
        obtain ⟨n8, n1, nc⟩ := b8_step (n := n) (v := n / 256 % 256) (k := 1) (by decide) h8.out h1.out hc.out (by unfold byteN; rfl)
        go_roundw
        case rel => exact ⟨2, _, by omega, rfl, Lib.hid n8, Lib.hid n1, Lib.hid nc, Lib.hid (hb.out.setCell (by show w.heap.size ≤ w.heap.size + 1; omega) _), Lib.hid (blk_setCell_other h2.out (show w.heap.size ≠ w.heap.size + 1 by omega) _), Lib.hid (blk_setCell h3.out 1 _)⟩
        case measure => decide
      · go_wp2
        obtain ⟨n8, n1, nc⟩ := b8_step (n := n) (v := n / 65536 % 256) (k := 2) (by decide) h8.out h1.out hc.out (by unfold byteN; rfl)
        go_roundw
        case rel => exact ⟨3, _, by omega, rfl, Lib.hid n8, Lib.hid n1, Lib.hid nc, Lib.hid (hb.out.setCell (by show w.heap.size ≤ w.heap.size + 1; omega) _), Lib.hid (blk_setCell_other h2.out (show w.heap.size ≠ w.heap.size + 1 by omega) _), Lib.hid (blk_setCell h3.out 2 _)⟩
        case measure => decide
      · go_wp2
        obtain ⟨n8, n1, nc⟩ := b8_step (n := n) (v := n / 16777216 % 256) (k := 3) (by decide) h8.out h1.out hc.out (by unfold byteN; rfl)
        go_roundw
        case rel => exact ⟨4, _, by omega, rfl, Lib.hid n8, Lib.hid n1, Lib.hid nc, Lib.hid (hb.out.setCell (by show w.heap.size ≤ w.heap.size + 1; omega) _), Lib.hid (blk_setCell_other h2.out (show w.heap.size ≠ w.heap.size + 1 by omega) _), Lib.hid (blk_setCell h3.out 3 _)⟩
        case measure => decide
      · go_wp2
        obtain ⟨n8, n1, nc⟩ := b8_step (n := n) (v := n / 4294967296 % 256) (k := 4) (by decide) h8.out h1.out hc.out (by unfold byteN; rfl)
        go_roundw
        case rel => exact ⟨5, _, by omega, rfl, Lib.hid n8, Lib.hid n1, Lib.hid nc, Lib.hid (hb.out.setCell (by show w.heap.size ≤ w.heap.size + 1; omega) _), Lib.hid (blk_setCell_other h2.out (show w.heap.size ≠ w.heap.size + 1 by omega) _), Lib.hid (blk_setCell h3.out 4 _)⟩
        case measure => decide
      · go_wp2
        obtain ⟨n8, n1, nc⟩ := b8_step (n := n) (v := n / 1099511627776 % 256) (k := 5) (by decide) h8.out h1.out hc.out (by unfold byteN; rfl)
        go_roundw
        case rel => exact ⟨6, _, by omega, rfl, Lib.hid n8, Lib.hid n1, Lib.hid nc, Lib.hid (hb.out.setCell (by show w.heap.size ≤ w.heap.size + 1; omega) _), Lib.hid (blk_setCell_other h2.out (show w.heap.size ≠ w.heap.size + 1 by omega) _), Lib.hid (blk_setCell h3.out 5 _)⟩
        case measure => decide
      · go_wp2
        obtain ⟨n8, n1, nc⟩ := b8_step (n := n) (v := n / 281474976710656 % 256) (k := 6) (by decide) h8.out h1.out hc.out (by unfold byteN; rfl)
        go_roundw
        case rel => exact ⟨7, _, by omega, rfl, Lib.hid n8, Lib.hid n1, Lib.hid nc, Lib.hid (hb.out.setCell (by show w.heap.size ≤ w.heap.size + 1; omega) _), Lib.hid (blk_setCell_other h2.out (show w.heap.size ≠ w.heap.size + 1 by omega) _), Lib.hid (blk_setCell h3.out 6 _)⟩
        case measure => decide
      · go_wp2
        obtain ⟨n8, n1, nc⟩ := b8_step (n := n) (v := n / 72057594037927936) (k := 7) (by decide) h8.out h1.out hc.out (by unfold byteN; show _ = n / 72057594037927936 % 256; omega)
        go_roundw
        case rel => exact ⟨8, _, by omega, rfl, Lib.hid n8, Lib.hid n1, Lib.hid nc, Lib.hid (hb.out.setCell (by show w.heap.size ≤ w.heap.size + 1; omega) _), Lib.hid (blk_setCell_other h2.out (show w.heap.size ≠ w.heap.size + 1 by omega) _), Lib.hid (blk_setCell h3.out 7 _)⟩
        case measure => decide
    · obtain rfl : k = 8 := by omega
      have hbl3 := h3.out
      have hbl2 := h2.out
      have he := b8_end h8.out hc.out
      have HE := Lib.hid he
      clear he
      go_wp2_with (first | ((with_reducible apply l_loadw 108); (focus rfl); (focus (repeat (first | assumption | (apply Blk.newAt; (focus (simp; done))) | apply Blk.alloc | apply Blk.setRow | apply Blk.drewN | apply Blk.drew | (refine Blk.setRow_other ?_ ?_ _; focus (first | omega | (simp; omega)))))); (focus exact Try.underlying108); (focus rfl); (focus exact szB8); (focus (first | exact h8.out | (first | omega | (simp; done) | (simp; omega) | assumption))); (try go_frame)) | ((with_reducible apply l_storew 108); (focus rfl); (focus rfl); (focus (repeat (first | assumption | (apply Blk.newAt; (focus (simp; done))) | apply Blk.alloc | apply Blk.setRow | apply Blk.drewN | apply Blk.drew | (refine Blk.setRow_other ?_ ?_ _; focus (first | omega | (simp; omega)))))); (focus exact szB8); (focus (first | exact h8.out | (first | omega | (simp; done) | (simp; omega) | assumption))); (focus (first | omega | (simp; done) | (simp; omega) | assumption)); (focus exact h1.out); (focus (repeat (first | (apply setRow_eq_at; (focus (simp; done))) | (refine setRow_eq_past ?_ ?_; (focus (first | (simp; done) | omega | (simp; omega)))) | apply setRow_eq_drewN | apply setRow_eq_drew | rfl))); (try go_frame)))
      ((with_reducible apply l_ret); (focus rfl); (focus rfl); (focus (repeat (first | assumption | (apply Blk.newAt; (focus (simp; done))) | apply Blk.alloc | apply Blk.setRow | apply Blk.drewN | apply Blk.drew | (refine Blk.setRow_other ?_ ?_ _; focus (first | omega | (simp; omega)))))); (focus exact Try.underlying108); (focus rfl); (focus exact szB8); (focus (first | exact h8.out | (first | omega | (simp; done) | (simp; omega) | assumption))); (focus rfl))
      exact ⟨by rw [HE.out], below_setRow hb.out (Nat.le_refl _) _⟩

end Go.Proofs.Ytikbkcidalippaa
