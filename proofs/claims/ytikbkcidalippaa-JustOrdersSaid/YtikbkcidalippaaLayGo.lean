/-
  pharosref03.Lay: walked, where its parts are as long as their sizes say.
-/
import Derived.Test.YtikbkcidalippaaLay
namespace Go.Proofs.Ytikbkcidalippaa
open Go.RowKit
attribute [local irreducible] Hid Blk
set_option maxRecDepth 100000

/-- In no block together. -/
def Apart (a b : Value) : Prop := ∀ g, a.ownBlock = some g → b.ownBlock ≠ some g
theorem Apart.kept {a b : Value} (h : Apart a b) : b.ownBlock = none ∨ b.ownBlock ≠ a.ownBlock := by
  cases hb : b.ownBlock with
  | none => exact .inl rfl
  | some g => exact .inr fun e => h g e.symm hb
theorem Apart.symm {a b : Value} (h : Apart a b) : Apart b a := fun g hb ha => h g ha hb
theorem Apart.new {w : World} {a a' b : Value} {base n sz : Nat} {e : TypeId} {xs : List Value} (h : Apart a b) (hb : w.ownsRow base e sz b n xs) (hn : a'.ownBlock = a.ownBlock ∨ a'.ownBlock = some w.heap.size) : Apart a' b := by
  intro g ha hg
  rcases hn with hn | hn
  · exact h g (hn.symm.trans ha) hg
  · rw [hn] at ha
    cases ha
    have := (hb.lt _ hg).2
    omega
theorem own_drewN {w : World} {base n sz : Nat} {e : TypeId} {v : Value} {xs : List Value} (h : w.ownsRow base e sz v n xs) (k : Nat) : (w.drewN k).ownsRow base e sz v n xs := h

set_option maxHeartbeats 2000000 in
theorem lay_any (bp op cp bs os cs n : Nat) (P : Nat → List Value) (S : Nat → Nat) (V : Nat → Value) (w : World) (h1 : 1 ≤ n) (h64 : n ≤ 64) (hbp : bp < w.heap.size) (hbs : bs < w.heap.size)
    (hS : ∀ j, j < n → w.cell? ⟨bs, os + j, none⟩ = some (.int .i64 (S j))) (hm : ∀ j, j < n → S j ≤ 65536) (hV : ∀ j, j < n → w.cell? ⟨bp, op + j, none⟩ = some (V j))
    (hP : ∀ j, j < n → ∃ a m c, V j = .slice a m c ∧ SlR w w.heap.size 1 1 a m c (P j) ∧ (∀ u ∈ P j, u.oneCell' = true) ∧ (S j ≠ 0 → m = S j) ∧ m ≤ 16777216) :
    Calls Try.prog 53 #[.slice (some ⟨bp, op, none⟩) n cp, .slice (some ⟨bs, os, none⟩) n cs] w fun e w' => ∃ v, e = .returned (.tuple #[v, .int .i64 0]) ∧ w'.ownsRow w.heap.size 5 1 v (layB P S n).length (layB P S n) ∧ Below w.heap.size w w' := by
  have HS := Lib.hid hS; have HM := Lib.hid hm; have HV := Lib.hid hV; have HP := Lib.hid hP
  have hPl : ∀ j, j < n → (P j).length ≤ 16777216 := fun j hj => by
    obtain ⟨a, m, c, -, s, -, -, hm⟩ := hP j hj
    have := s.len; omega
  have hPo : ∀ j, j < n → ∀ u ∈ P j, u.oneCell' = true := fun j hj => by
    obtain ⟨a, m, c, -, -, h, -, -⟩ := hP j hj; exact h
  have HRL : Hid (∀ k, k ≤ n → (layR P S k).length ≤ 1073741824) := Lib.hid fun k hk => by
    have := layR_len (P := P) (S := S) k fun j hj => hPl j (by omega)
    have h2 : k * 16777216 ≤ 64 * 16777216 := Nat.mul_le_mul_right _ (by omega)
    omega
  have HOL : Hid (∀ h k, k ≤ n → (layO h P S k).length ≤ 1073741824) := Lib.hid fun h k hk => by
    have := layO_len (h := h) (P := P) (S := S) (M := 16777216) (by decide) k fun j hj => hPl j (by omega)
    have h2 : k * 16777216 ≤ 64 * 16777216 := Nat.mul_le_mul_right _ (by omega)
    omega
  have HRO : Hid (∀ u ∈ layR P S n, u.oneCell' = true) := Lib.hid (layR_ones n hPo)
  have hH : headTo S n ≤ 4194304 := by
    have := headTo_le (S := S) n hm; omega
  obtain ⟨i0, z0, hi, hz0, hz1, hz2, hz3⟩ := info8
  have HI := Lib.hid (And.intro hi (And.intro hz0 (And.intro hz1 hz2)))
  have HZ := Lib.hid hz3
  clear hi hz0 hz1 hz2 hz3 hS hm hV hP hPl hPo
  obtain ⟨hd, hhd⟩ : ∃ hd, hd = headTo S n := ⟨_, rfl⟩
  have HHD := Lib.hid hhd.symm
  rw [← hhd] at hH
  clear hhd
  go_enter Try.func53, Try.ntmps53
  go_wp2_with (first
    | (go_at_call 60; refine (sizes_yes bs os n cs S _ h1 h64 HS.out HM.out).mono ?_; rintro e w' ⟨rfl, rfl⟩)
    | (go_at_call 61; refine (head_any bs os n cs S _ h64 HS.out HM.out).mono ?_; rintro e w' ⟨rfl, rfl⟩; rw [HHD.out]))
  go_loopw [6, 7, 9] (fun vo vr i wr => ∃ k : Nat, k ≤ n ∧ i = .int .i64 k ∧ Hid (wr.ownsRow w.heap.size 5 1 vo (layO hd P S k).length (layO hd P S k)) ∧ Hid (wr.ownsRow w.heap.size 5 1 vr (layR P S k).length (layR P S k)) ∧ Hid (Apart vo vr) ∧ Hid (Below w.heap.size w wr)) (fun _ _ i _ => n - (intOf i).toNat)
  case atStart => exact ⟨0, by omega, rfl, Lib.hid (World.ownsRow_nil _ _ _ _), Lib.hid (World.ownsRow_nil _ _ _ _), Lib.hid (fun g h => by cases h), Lib.hid (Below.refl _ _)⟩
  case round =>
    obtain ⟨k, hk, rfl, ho, hr, hap, hb⟩ := hrel
    have hgr := hb.out.size
    by_cases hlt : k < n
    · obtain ⟨a, m, c, hVk, hsl, hone, hmS, hm24⟩ := HP.out k hlt
      have hcs : wr.cell? ⟨bs, os + k, none⟩ = some (.int .i64 (S k)) := (hb.out.cell (by exact hbs)).trans (HS.out k hlt)
      have hcv : wr.cell? ⟨bp, op + k, none⟩ = some (.slice a m c) := (hb.out.cell (by exact hbp)).trans (by rw [HV.out k hlt, hVk])
      have Hsl := Lib.hid (hsl.below hb.out)
      have HSl0 := Lib.hid hsl
      have Hcw : Hid (w.cell? ⟨bp, op + k, none⟩ = some (.slice a m c)) := Lib.hid (by rw [HV.out k hlt, hVk])
      have Hone := Lib.hid hone
      have hol := HOL.out hd k hk
      have hrl := HRL.out k hk
      have hml := hsl.max
      have hmc := hsl.le
      have HnO : Hid (layO hd P S (k + 1) = if S k = 0 then layO hd P S k ++ fourB (hd + (layR P S k).length : Nat) else layO hd P S k ++ P k) := Lib.hid rfl
      have HnR : Hid (layR P S (k + 1) = if S k = 0 then layR P S k ++ P k else layR P S k) := Lib.hid rfl
      have HPl : Hid ((P k).length = m) := Lib.hid (by have := hsl.len; omega)
      clear hVk hsl hone
      by_cases hz : S k = 0
      · have e1 : ((S k : Int) != 0) = false := by rw [hz]; rfl
        have hnO : Hid (layO hd P S (k + 1) = layO hd P S k ++ fourB (hd + (layR P S k).length : Nat)) := Lib.hid (by rw [HnO.out, if_pos hz])
        have hnR : Hid (layR P S (k + 1) = layR P S k ++ P k) := Lib.hid (by rw [HnR.out, if_pos hz])
        clear hmS hz HnO HnR
        generalize S k = s at *
        obtain ⟨ar, cr, rfl⟩ := own_form hr.out
        have hrm := (SlR.own (bytes := 1) hr.out (by rw [Nat.mul_one]; exact Nat.le_trans (HRL.out k hk) (by decide))).max
        have hrc := (SlR.own (bytes := 1) hr.out (by rw [Nat.mul_one]; exact Nat.le_trans (HRL.out k hk) (by decide))).le
        go_upto_region 9 with fail
        go_quiet (fail)
        have hb1 := Lib.hid (below_drewN hb.out nq)
        have ho1 := Lib.hid (own_drewN ho.out nq)
        have hr1 := Lib.hid (own_drewN hr.out nq)
        have hs1 := Lib.hid (Hsl.out.drewN nq)
        have hc1 : (wr.drewN nq).cell? ⟨bp, op + k, none⟩ = some (.slice a m c) := hcv
        have hc2 : (wr.drewN nq).cell? ⟨bs, os + k, none⟩ = some (.int .i64 s) := hcs
        have hgd : (wr.drewN nq).heap.size = wr.heap.size := rfl
        have Hc1 := Lib.hid hc1
        have Hc2 := Lib.hid hc2
        clear hc1 hc2 hcs hcv hb ho hr Hsl
        generalize wr.drewN nq = wd at *
        have hgr2 : w.heap.size ≤ wd.heap.size := by omega
        have hcd := Hc2.out
        go_upto_region 13 with fail
        clear hcd
        go_upto_region 14 with (first
          | (go_at_call 62; refine (four_any _ (by omega) (by omega) _).mono ?_
             rintro e w1 ⟨v1, rfl, hown1, hb11⟩
             obtain ⟨a1, c1, rfl⟩ := own_form hown1
             have hs4 := Lib.hid (SlR.own (bytes := 1) hown1 (by decide))
             have ho11 := Lib.hid (own_blk ho1.out hb11)
             have hr11 := Lib.hid (own_blk hr1.out hb11)
             have hs11 := Lib.hid (hs1.out.below (hb11.mono (by omega)))
             have hb12 := Lib.hid (hb1.out.trans (hb11.mono hgr2))
             have hg11 := hb11.size
             have hcv1 : Hid (w1.cell? ⟨bp, op + k, none⟩ = some (.slice a m c)) := Lib.hid ((hb11.cell (by show bp < _; omega)).trans Hc1.out)
             clear hown1 hb11)
          | (at_builtin; (with_reducible apply l_append2 39 w.heap.size); (focus exact Try.underlying39); (focus exact HI.out.1); (focus exact HI.out.2.1); (focus exact HI.out.2.2.1); (focus exact HI.out.2.2.2); (focus (first | rfl | exact HZ.out)); (focus decide); (focus rfl); (focus exact ho11.out); (focus rfl); (focus exact hs4.out); (focus exact (fourB_ones _)); (focus (first | omega | (simp; omega))); (focus (first | omega | (simp; omega))); (focus (first | omega | (simp; done) | (simp; omega)))))
        intro v2 w2 hown hg hat
        have ho2 := Lib.hid hown
        have hr2 := Lib.hid (hr11.out.kept hg hap.out.kept)
        have ha2 := Lib.hid (Apart.new (w := w1) hap.out hr11.out hat)
        have hb2 := Lib.hid (hb12.out.grown hg (by omega) (fun g h => (ho11.out.lt g h).1))
        have hs2 := Lib.hid (HSl0.out.below hb2.out)
        have hcv2 : w2.cell? ⟨bp, op + k, none⟩ = some (.slice a m c) := (hb2.out.cell (by exact hbp)).trans Hcw.out
        have hg2 := hb2.out.size
        clear hown hg hat
        go_wp2_with ((at_builtin; (with_reducible apply l_append2 39 w.heap.size); (focus exact Try.underlying39); (focus exact HI.out.1); (focus exact HI.out.2.1); (focus exact HI.out.2.2.1); (focus exact HI.out.2.2.2); (focus (first | rfl | exact HZ.out)); (focus decide); (focus rfl); (focus exact hr2.out); (focus rfl); (focus exact hs2.out); (focus exact Hone.out); (focus (first | omega | (simp; omega))); (focus (first | omega | (simp; omega))); (focus (first | omega | (simp; done) | (simp; omega)))))
        intro v3 w3 hown hg hat
        have hr3 := Lib.hid hown
        have ho3 := Lib.hid (ho2.out.kept hg ha2.out.symm.kept)
        have ha3 := Lib.hid (Apart.symm (Apart.new (w := w2) ha2.out.symm ho2.out hat))
        have hb3 := Lib.hid (hb2.out.grown hg hg2 (fun g h => (hr2.out.lt g h).1))
        clear hown hg hat hcv2
        go_wp2
        go_roundw
        case rel => exact ⟨k + 1, by omega, by go_num, Lib.hid (by rw [hnO.out, List.length_append]; exact ho3.out), Lib.hid (by rw [hnR.out, List.length_append, HPl.out]; exact hr3.out), ha3, hb3⟩
        case measure => simp [intOf]; omega
      · have hms : m = S k := hmS hz
        have e1 : ((S k : Int) != 0) = true := bne_iff_ne.2 (by omega)
        have e2 : ((m : Int) != (S k : Int)) = false := by rw [hms]; exact bne_self_eq_false _
        have hnO : Hid (layO hd P S (k + 1) = layO hd P S k ++ P k) := Lib.hid (by rw [HnO.out, if_neg hz])
        have hnR : Hid (layR P S (k + 1) = layR P S k) := Lib.hid (by rw [HnR.out, if_neg hz])
        clear hms hmS hz HnO HnR
        generalize S k = s at *
        go_upto_region 9 with fail
        go_quiet (fail)
        go_wp2_with ((at_builtin; (with_reducible apply l_append2 39 w.heap.size); (focus exact Try.underlying39); (focus exact HI.out.1); (focus exact HI.out.2.1); (focus exact HI.out.2.2.1); (focus exact HI.out.2.2.2); (focus (first | rfl | exact HZ.out)); (focus decide); (focus rfl); (focus exact (own_drewN ho.out _)); (focus rfl); (focus exact (Hsl.out.drewN _)); (focus exact Hone.out); (focus (first | omega | (simp; omega))); (focus (first | omega | (simp; omega))); (focus (first | omega | (simp; done) | (simp; omega)))))
        intro v2 w2 hown hg hat
        have ho2 := Lib.hid hown
        have hr2 := Lib.hid ((own_drewN hr.out nq).kept hg hap.out.kept)
        have ha2 := Lib.hid (Apart.new (w := wr.drewN nq) hap.out (own_drewN hr.out nq) hat)
        have hb2 := Lib.hid ((below_drewN hb.out nq).grown hg hgr (fun g h => (ho.out.lt g h).1))
        clear hown hg hat hcs hcv
        go_wp2
        go_roundw
        case rel => exact ⟨k + 1, by omega, by go_num, Lib.hid (by rw [hnO.out, List.length_append, HPl.out]; exact ho2.out), Lib.hid (by rw [hnR.out]; exact hr2.out), ha2, hb2⟩
        case measure => simp [intOf]; omega
    · obtain rfl : k = n := by omega
      obtain ⟨ar, cr, rfl⟩ := own_form hr.out
      have hrs := Lib.hid (SlR.own (bytes := 1) hr.out (by rw [Nat.mul_one]; exact Nat.le_trans (HRL.out k (Nat.le_refl _)) (by decide)))
      have hol := HOL.out hd k (Nat.le_refl _)
      have hrl := HRL.out k (Nat.le_refl _)
      have HLB : Hid (layB P S k = layO hd P S k ++ layR P S k) := Lib.hid (by unfold layB; rw [HHD.out])
      have hml := hrs.out.max
      have hmc := hrs.out.le
      go_wp2_with ((at_builtin; (with_reducible apply l_append2 39 w.heap.size); (focus exact Try.underlying39); (focus exact HI.out.1); (focus exact HI.out.2.1); (focus exact HI.out.2.2.1); (focus exact HI.out.2.2.2); (focus (first | rfl | exact HZ.out)); (focus decide); (focus rfl); (focus exact ho.out); (focus rfl); (focus exact hrs.out); (focus exact HRO.out); (focus (first | omega | (simp; omega))); (focus (first | omega | (simp; omega))); (focus (first | omega | (simp; done) | (simp; omega)))))
      intro v2 w2 hown hg hat
      have ho2 := Lib.hid hown
      have hb2 := Lib.hid (hb.out.grown hg hgr (fun g h => (ho.out.lt g h).1))
      clear hown hg hat
      go_wp2
      go_ret2
      exact ⟨_, rfl, by rw [HLB.out, List.length_append]; exact ho2.out, hb2.out⟩

end Go.Proofs.Ytikbkcidalippaa
