/-
  EncCommittee: walked.
-/
import Derived.Test.YtikbkcidalippaaEnc
namespace Go.Proofs.Ytikbkcidalippaa
open Go.RowKit
attribute [local irreducible] Hid Blk
set_option maxRecDepth 100000

theorem ext_app {cs : Array Value} {a b c : Nat} (h1 : a ≤ b) (h2 : b ≤ c) : (cs.extract a b).toList ++ (cs.extract b c).toList = (cs.extract a c).toList := by
  rw [← Array.toList_append, Array.extract_append_extract, Nat.min_eq_left h1, Nat.max_eq_right h2]

set_option maxHeartbeats 2000000 in
theorem encCom_any (cs : Array Value) (w : World) (hsz : cs.size = 432) (ho : cs.all (·.oneCell') = true) :
    Calls Try.prog 52 #[.agg cs] w fun e w' => ∃ v, e = .returned (.tuple #[v, .int .i64 0]) ∧ w'.ownsRow w.heap.size 5 1 v 432 cs.toList ∧ Below w.heap.size w w' := by
  obtain ⟨i0, z0, hi, hz0, hz1, hz2, hz3⟩ := info8
  have HI := Lib.hid (And.intro hi (And.intro hz0 (And.intro hz1 hz2)))
  have HZ := Lib.hid hz3
  have HO := Lib.hid ho
  have hsz1 : 432 ≤ cs.size := Nat.le_of_eq hsz.symm
  have HS := Lib.hid hsz
  clear hi hz0 hz1 hz2 hz3 ho hsz
  go_enter Try.func52, Try.ntmps52
  go_upto_region 2 with fail
  obtain ⟨wx, hwx⟩ : ∃ wx : World, wx = w.alloc (.cells cs 47) := ⟨_, rfl⟩
  have hbx : Below w.heap.size w wx := by rw [hwx]; exact (by (repeat (first | exact Below.refl _ _ | apply Below.drew | apply below_drewN | (refine Below.alloc ?_ ?_ _) | (refine below_setRow ?_ ?_ _) | (refine Below.setCell ?_ ?_ _) | (refine Below.trans ?_ (Below.mono (by assumption) ?_)) | omega | (focus (simp; done)) | (focus (simp; omega)))))
  have hk : Blk wx w.heap.size 47 cs := by rw [hwx]; exact (by (repeat (first | assumption | (apply Blk.newAt; (focus (simp; done))) | apply Blk.alloc | apply Blk.setRow | apply Blk.drewN | apply Blk.drew | (refine Blk.setRow_other ?_ ?_ _; focus (first | omega | (simp; omega))))))
  rw [← hwx]
  clear hwx
  have hg0 := hk.lt
  have D0 := Lib.hid hbx
  have K0 := Lib.hid hk
  clear hbx hk
  go_wp2
  go_loopw [5, 7] (fun vo i wr => ∃ k : Nat, k ≤ 8 ∧ i = .int .i64 k ∧ Hid (wr.ownsRow wx.heap.size 5 1 vo (k * 48) (cs.extract 0 (k * 48)).toList) ∧ Hid (Below wx.heap.size wx wr)) (fun _ i _ => 8 - (intOf i).toNat)
  case atStart => exact ⟨0, by omega, rfl, Lib.hid (by simpa using World.ownsRow_nil _ _ _ _), Lib.hid (Below.refl _ _)⟩
  case round =>
    obtain ⟨k, hk8, rfl, ho, hb⟩ := hrel
    have hgr := hb.out.size
    have hk := Blk.below K0.out hb.out hg0
    obtain ⟨ao, co, rfl⟩ := own_form ho.out
    have h48 : k * 48 ≤ 384 := by omega
    have hsB := SlR.own (bytes := 1) ho.out (Nat.le_trans (Nat.le_of_eq (Nat.mul_one _)) (Nat.le_trans h48 (by decide)))
    by_cases hlt : k < 8
    · go_upto_region 10 with ((at_builtin; (with_reducible apply l_append 39 wr.heap.size); (focus exact Try.underlying39); (focus exact HI.out.1); (focus exact HI.out.2.1); (focus exact HI.out.2.2.1); (focus exact HI.out.2.2.2); (focus (first | rfl | exact HZ.out)); (focus decide); (focus rfl); (focus exact (ownsRow_empty _ _ _ (Nat.le_refl _))); (focus rfl); (focus exact ((slr_blk hk (k * 48) 48 1 (by omega) (by decide) (by decide) _ (by go_num)).alloc (by omega) _)); (focus exact (ext_ones HO.out (k * 48) 48)); (focus (first | omega | (simp; omega))); (focus (first | omega | (simp; omega))); (focus (first | omega | (simp; done) | (simp; omega)))))
      intro v1 w1 hown hgw
      simp only [Nat.zero_add, List.nil_append] at hown
      obtain ⟨a1, c1, rfl⟩ := own_form hown
      have hb1 : Below wr.heap.size wr w1 := ((Below.refl _ _).alloc (Nat.le_refl _) _).grown hgw (by simp) (fun k hk => by
        have h : some wr.heap.size = some k := hk
        exact Nat.le_of_eq (Option.some.inj h))
      have hs1 := Lib.hid (SlR.own (bytes := 1) hown (by decide))
      have ho1 := Lib.hid (own_blk ho.out hb1)
      have hB1 := Lib.hid (hb.out.trans (hb1.mono (by omega)))
      have hg1 := hB1.out.size
      clear hown hgw hb1 hk
      go_wp2_with ((at_builtin; (with_reducible apply l_append2 39 wx.heap.size); (focus exact Try.underlying39); (focus exact HI.out.1); (focus exact HI.out.2.1); (focus exact HI.out.2.2.1); (focus exact HI.out.2.2.2); (focus (first | rfl | exact HZ.out)); (focus decide); (focus rfl); (focus exact ho1.out); (focus rfl); (focus exact hs1.out); (focus exact (ext_ones HO.out (k * 48) 48)); (focus (first | omega | (simp; omega))); (focus (first | omega | (simp; omega))); (focus (first | omega | (simp; done) | (simp; omega)))))
      intro v2 w2 hown hg hat
      have ho2 := Lib.hid hown
      have hb2 := Lib.hid (hB1.out.grown hg hg1 (fun g h => (ho1.out.lt g h).1))
      clear hown hg hat
      go_wp2
      go_roundw
      case rel => exact ⟨k + 1, by omega, by go_num, Lib.hid (by rw [show (k + 1) * 48 = k * 48 + 48 by omega, ← ext_app (cs := cs) (a := 0) (b := k * 48) (by omega) (by omega)]; exact ho2.out), hb2⟩
      case measure => simp [intOf]; omega
    · obtain rfl : k = 8 := by omega
      have hsA := Lib.hid hsB
      have hgx : w.heap.size < wx.heap.size := hg0
      have HA : Hid ((8 * 48 : Nat) = 384) := Lib.hid rfl
      clear hsB h48
      go_upto_region 12 with ((at_builtin; (with_reducible apply l_append 39 wr.heap.size); (focus exact Try.underlying39); (focus exact HI.out.1); (focus exact HI.out.2.1); (focus exact HI.out.2.2.1); (focus exact HI.out.2.2.2); (focus (first | rfl | exact HZ.out)); (focus decide); (focus rfl); (focus exact (ownsRow_empty _ _ _ (Nat.le_refl _))); (focus rfl); (focus exact ((slr_blk hk 384 48 1 (by omega) (by decide) (by decide) _ rfl).alloc (by omega) _)); (focus exact (ext_ones HO.out 384 48)); (focus (first | omega | (simp; omega))); (focus (first | omega | (simp; omega))); (focus (first | omega | (simp; done) | (simp; omega)))))
      intro v1 w1 hown hgw
      replace hown : w1.ownsRow wr.heap.size 5 1 v1 48 (cs.extract 384 (384 + 48)).toList := by simpa using hown
      obtain ⟨a1, c1, rfl⟩ := own_form hown
      have hb1 : Below wr.heap.size wr w1 := ((Below.refl _ _).alloc (Nat.le_refl _) _).grown hgw (by simp) (fun k hk => by
        have h : some wr.heap.size = some k := hk
        exact Nat.le_of_eq (Option.some.inj h))
      have hs1 := Lib.hid (SlR.own (bytes := 1) hown (by decide))
      have hs0 := Lib.hid ((hsA.out.below hb1).more hb1.size)
      have hB1 := Lib.hid (hb.out.trans (hb1.mono (by omega)))
      have hg1 := hB1.out.size
      clear hown hgw hb1 hk hsA
      have o0 : ∀ u ∈ (cs.extract 0 (8 * 48)).toList, u.oneCell' = true := by simpa using ext_ones HO.out 0 (8 * 48)
      have o1 : ∀ u ∈ (cs.extract 384 (384 + 48)).toList, u.oneCell' = true := ext_ones HO.out _ _
      have hly : ly [⟨ao, 8 * 48, co, 384, (cs.extract 0 (8 * 48)).toList⟩, ⟨a1, 48, c1, 48, (cs.extract 384 (384 + 48)).toList⟩] = cs.toList := by
        simp only [ly, layB]
        simp only [List.length_cons, List.length_nil, Nat.zero_add, Nat.reduceAdd, layO, layR, List.getElem?_cons_zero, List.getElem?_cons_succ, Option.map_some, Option.getD_some, List.nil_append, List.append_nil, if_false, reduceCtorEq]
        rw [ext_app (by omega) (by omega), ← HS.out]
        simp
      have hlen : cs.toList.length = 432 := by simpa using HS.out
      have HLY := Lib.hid hly; have HLEN := Lib.hid hlen
      have HF : Hid (∀ p ∈ ([⟨ao, 8 * 48, co, 384, (cs.extract 0 (8 * 48)).toList⟩, ⟨a1, 48, c1, 48, (cs.extract 384 (384 + 48)).toList⟩] : List Pt), p.fit w1) := Lib.hid (List.forall_mem_cons.2 ⟨fit_mk hs0.out o0 (fun _ => rfl) (by decide) (by decide), (List.forall_mem_cons.2 ⟨fit_mk hs1.out o1 (fun _ => rfl) (by decide) (by decide), (fun _ h => nomatch h)⟩)⟩)
      clear hly hlen o0 o1
      go_wp2_with (first
        | (go_at_call 53
           refine (lay_rows [⟨ao, 8 * 48, co, 384, (cs.extract 0 (8 * 48)).toList⟩, ⟨a1, 48, c1, 48, (cs.extract 384 (384 + 48)).toList⟩] w1 2 _ _ _ _ _ rfl rfl rfl (by decide) (by decide) (by simp) HF.out).mono ?_
           rintro e wz ⟨v, rfl, hown, hbz⟩
           rw [HLY.out, HLEN.out] at hown))
      go_ret2
      exact ⟨_, rfl, own_weak hown (by omega), D0.out.trans ((hB1.out.mono (by omega)).trans (hbz.mono (by omega)))⟩
end Go.Proofs.Ytikbkcidalippaa
