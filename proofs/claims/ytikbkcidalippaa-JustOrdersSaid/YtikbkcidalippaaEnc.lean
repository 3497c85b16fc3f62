/-
  The encoders of the small structs: walked.
-/
import Derived.Test.YtikbkcidalippaaLayRow
namespace Go.Proofs.Ytikbkcidalippaa
open Go.RowKit
attribute [local irreducible] Hid Blk
set_option maxRecDepth 100000

theorem ext_len {cs : Array Value} {o m : Nat} (h : o + m ≤ cs.size) : (cs.extract o (o + m)).toList.length = m := by simp; omega
theorem ext_ones {cs : Array Value} (h : cs.all (·.oneCell') = true) (o m : Nat) : ∀ u ∈ (cs.extract o (o + m)).toList, u.oneCell' = true := by
  have := ones_extract h o (o + m)
  rw [Array.all_eq_true_iff_forall_mem] at this
  exact fun u hu => this u (Array.mem_toList_iff.1 hu)
theorem flag1_ones (b : Bool) : ∀ u ∈ flag1 b, u.oneCell' = true := by
  intro u hu
  simp only [flag1, List.mem_cons, List.not_mem_nil, or_false] at hu
  subst hu; rfl

/-- Its bytes. -/
def encChk (cs : Array Value) (x0 : Int) : List Value := num8 x0 ++ (cs.extract 1 (1 + 32)).toList
set_option maxHeartbeats 2000000 in
theorem encChk_any (cs : Array Value) (x0 : Int) (w : World) (hsz : cs.size = 33) (ho : cs.all (·.oneCell') = true) (h0 : cs[0]? = some (.int .u64 x0)) (w0 : W64 x0)  :
    Calls Try.prog 51 #[.agg cs] w fun e w' => ∃ v, e = .returned (.tuple #[v, .int .i64 0]) ∧ w'.ownsRow w.heap.size 5 1 v 40 (encChk cs x0) ∧ Below w.heap.size w w' := by
  obtain ⟨i0, z0, hi, hz0, hz1, hz2, hz3⟩ := info8
  have HI := Lib.hid (And.intro hi (And.intro hz0 (And.intro hz1 hz2)))
  have HZ := Lib.hid hz3
  have HO := Lib.hid ho
  have hsz1 : 33 ≤ cs.size := Nat.le_of_eq hsz.symm
  clear hi hz0 hz1 hz2 hz3 ho hsz
  have W0 := Lib.hid w0
  clear w0
  go_enter Try.func51, Try.ntmps51
  go_upto_region 4 with fail
  obtain ⟨wx, hwx⟩ : ∃ wx : World, wx = w.alloc (.cells cs 42) := ⟨_, rfl⟩
  have hbx : Below w.heap.size w wx := by rw [hwx]; exact (by (repeat (first | exact Below.refl _ _ | apply Below.drew | apply below_drewN | (refine Below.alloc ?_ ?_ _) | (refine below_setRow ?_ ?_ _) | (refine Below.setCell ?_ ?_ _) | (refine Below.trans ?_ (Below.mono (by assumption) ?_)) | omega | (focus (simp; done)) | (focus (simp; omega)))))
  have hk : Blk wx w.heap.size 42 cs := by rw [hwx]; exact (by (repeat (first | assumption | (apply Blk.newAt; (focus (simp; done))) | apply Blk.alloc | apply Blk.setRow | apply Blk.drewN | apply Blk.drew | (refine Blk.setRow_other ?_ ?_ _; focus (first | omega | (simp; omega))))))
  rw [← hwx]
  clear hwx
  have hg := hk.lt
  have D := Lib.hid hbx
  clear hbx
  have hcell := hk.cell
  go_upto_region 5 with (first
    | (go_at_call 58; refine (number7 x0 W0.out _).mono ?_
       rintro e w0 ⟨v0, rfl, hown0, hb1⟩
       obtain ⟨a0, c0, rfl⟩ := own_form hown0
       clear hcell
       have hb1s := hb1.size
       
       have S0 := Lib.hid (SlR.own (bytes := 1) hown0 (by decide))
       have hk2 := Blk.below hk hb1 hk.lt
       have D2 := Lib.hid (D.out.trans (hb1.mono (by omega)))
       have hg2 := hk2.lt
       clear hk D hg hb1 hb1s hown0
       have hk := hk2
       have D := D2
       have hg := hg2
       clear hk2 D2 hg2))
  go_upto_region 6 with ((at_builtin; (with_reducible apply l_append 39 w0.heap.size); (focus exact Try.underlying39); (focus exact HI.out.1); (focus exact HI.out.2.1); (focus exact HI.out.2.2.1); (focus exact HI.out.2.2.2); (focus (first | rfl | exact HZ.out)); (focus decide); (focus rfl); (focus exact (ownsRow_empty _ _ _ (Nat.le_refl _))); (focus rfl); (focus exact ((slr_blk hk 1 32 1 (by omega) (by decide) (by decide) _ rfl).alloc (by omega) _)); (focus exact (ext_ones HO.out 1 32)); (focus (first | omega | (simp; omega))); (focus (first | omega | (simp; omega))); (focus (first | omega | (simp; done) | (simp; omega)))))
  intro v1 w1 hown1 hgw
  simp only [Nat.zero_add, List.nil_append] at hown1
  obtain ⟨a1, c1, rfl⟩ := own_form hown1
  have hb1 : Below w0.heap.size w0 w1 := ((Below.refl _ _).alloc (Nat.le_refl _) _).grown hgw (by simp) (fun k hk => by
    have h : some w0.heap.size = some k := hk
    exact Nat.le_of_eq (Option.some.inj h))
  clear hgw
  have hb1s := hb1.size
  have S0' := Lib.hid ((S0.out.below hb1).more hb1.size); 
  have S1 := Lib.hid (SlR.own (bytes := 1) hown1 (by decide))
  have hk2 := Blk.below hk hb1 hk.lt
  have D2 := Lib.hid (D.out.trans (hb1.mono (by omega)))
  have hg2 := hk2.lt
  clear hk D hg hb1 hb1s hown1
  clear S0; have S0 := S0'; clear S0'; have hk := hk2
  have D := D2
  have hg := hg2
  clear hk2 D2 hg2
  go_upto_region 6 with fail
  have o0 : ∀ u ∈ num8 x0, u.oneCell' = true := num8_ones _
  have l0 : (num8 x0).length = 8 := num8_len _
  have E0 := Lib.hid (Eq.refl (num8 x0))
  have o1 : ∀ u ∈ (cs.extract 1 (1 + 32)).toList, u.oneCell' = true := ext_ones HO.out _ _
  have l1 : ((cs.extract 1 (1 + 32)).toList).length = 32 := ext_len (by omega)
  have E1 := Lib.hid (Eq.refl ((cs.extract 1 (1 + 32)).toList))
  have hly : ly [⟨a0, 8, c0, 8, num8 x0⟩, ⟨a1, 32, c1, 32, (cs.extract 1 (1 + 32)).toList⟩] = encChk cs x0 := by
    simp [ly, layB, layO, layR, encChk]
  have hlen : (encChk cs x0).length = 40 := by
    simp only [encChk, List.length_append, l0, l1]
  have HLY := Lib.hid hly; have HLEN := Lib.hid hlen
  have HF : Hid (∀ p ∈ ([⟨a0, 8, c0, 8, num8 x0⟩, ⟨a1, 32, c1, 32, (cs.extract 1 (1 + 32)).toList⟩] : List Pt), p.fit w1) := Lib.hid ((List.forall_mem_cons.2 ⟨fit_mk S0.out o0 (fun _ => rfl) (by decide) (by decide), (List.forall_mem_cons.2 ⟨fit_mk S1.out o1 (fun _ => rfl) (by decide) (by decide), (fun _ h => nomatch h)⟩)⟩))
  clear hk hly hlen o0 l0 E0 o1 l1 E1
  go_wp2_with (first
    | (go_at_call 53
       refine (lay_rows [⟨a0, 8, c0, 8, num8 x0⟩, ⟨a1, 32, c1, 32, (cs.extract 1 (1 + 32)).toList⟩] w1 2 _ _ _ _ _ rfl rfl rfl (by decide) (by decide) (by simp) HF.out).mono ?_
       rintro e wz ⟨v, rfl, hown, hbz⟩
       rw [HLY.out, HLEN.out] at hown))
  go_ret2
  exact ⟨_, rfl, own_weak hown (by omega), D.out.trans (hbz.mono (by omega))⟩

/-- Its bytes. -/
def encFork (cs : Array Value) (x2 : Int) : List Value := (cs.extract 0 (0 + 4)).toList ++ (cs.extract 4 (4 + 4)).toList ++ num8 x2
set_option maxHeartbeats 2000000 in
theorem encFork_any (cs : Array Value) (x2 : Int) (w : World) (hsz : cs.size = 9) (ho : cs.all (·.oneCell') = true) (h2 : cs[8]? = some (.int .u64 x2)) (w2 : W64 x2)  :
    Calls Try.prog 46 #[.agg cs] w fun e w' => ∃ v, e = .returned (.tuple #[v, .int .i64 0]) ∧ w'.ownsRow w.heap.size 5 1 v 16 (encFork cs x2) ∧ Below w.heap.size w w' := by
  obtain ⟨i0, z0, hi, hz0, hz1, hz2, hz3⟩ := info8
  have HI := Lib.hid (And.intro hi (And.intro hz0 (And.intro hz1 hz2)))
  have HZ := Lib.hid hz3
  have HO := Lib.hid ho
  have hsz1 : 9 ≤ cs.size := Nat.le_of_eq hsz.symm
  clear hi hz0 hz1 hz2 hz3 ho hsz
  have W2 := Lib.hid w2
  clear w2
  go_enter Try.func46, Try.ntmps46
  go_upto_region 5 with fail
  obtain ⟨wx, hwx⟩ : ∃ wx : World, wx = w.alloc (.cells cs 28) := ⟨_, rfl⟩
  have hbx : Below w.heap.size w wx := by rw [hwx]; exact (by (repeat (first | exact Below.refl _ _ | apply Below.drew | apply below_drewN | (refine Below.alloc ?_ ?_ _) | (refine below_setRow ?_ ?_ _) | (refine Below.setCell ?_ ?_ _) | (refine Below.trans ?_ (Below.mono (by assumption) ?_)) | omega | (focus (simp; done)) | (focus (simp; omega)))))
  have hk : Blk wx w.heap.size 28 cs := by rw [hwx]; exact (by (repeat (first | assumption | (apply Blk.newAt; (focus (simp; done))) | apply Blk.alloc | apply Blk.setRow | apply Blk.drewN | apply Blk.drew | (refine Blk.setRow_other ?_ ?_ _; focus (first | omega | (simp; omega))))))
  rw [← hwx]
  clear hwx
  have hg := hk.lt
  have D := Lib.hid hbx
  clear hbx
  go_upto_region 6 with ((at_builtin; (with_reducible apply l_append 39 wx.heap.size); (focus exact Try.underlying39); (focus exact HI.out.1); (focus exact HI.out.2.1); (focus exact HI.out.2.2.1); (focus exact HI.out.2.2.2); (focus (first | rfl | exact HZ.out)); (focus decide); (focus rfl); (focus exact (ownsRow_empty _ _ _ (Nat.le_refl _))); (focus rfl); (focus exact ((slr_blk hk 0 4 1 (by omega) (by decide) (by decide) _ rfl).alloc (by omega) _)); (focus exact (ext_ones HO.out 0 4)); (focus (first | omega | (simp; omega))); (focus (first | omega | (simp; omega))); (focus (first | omega | (simp; done) | (simp; omega)))))
  intro v0 w0 hown0 hgw
  simp only [Nat.zero_add, List.nil_append] at hown0
  obtain ⟨a0, c0, rfl⟩ := own_form hown0
  have hb1 : Below wx.heap.size wx w0 := ((Below.refl _ _).alloc (Nat.le_refl _) _).grown hgw (by simp) (fun k hk => by
    have h : some wx.heap.size = some k := hk
    exact Nat.le_of_eq (Option.some.inj h))
  clear hgw
  have hb1s := hb1.size
  
  have S0 := Lib.hid (SlR.own (bytes := 1) hown0 (by decide))
  have hk2 := Blk.below hk hb1 hk.lt
  have D2 := Lib.hid (D.out.trans (hb1.mono (by omega)))
  have hg2 := hk2.lt
  clear hk D hg hb1 hb1s hown0
  have hk := hk2
  have D := D2
  have hg := hg2
  clear hk2 D2 hg2
  go_upto_region 6 with fail
  go_upto_region 7 with ((at_builtin; (with_reducible apply l_append 39 w0.heap.size); (focus exact Try.underlying39); (focus exact HI.out.1); (focus exact HI.out.2.1); (focus exact HI.out.2.2.1); (focus exact HI.out.2.2.2); (focus (first | rfl | exact HZ.out)); (focus decide); (focus rfl); (focus exact (ownsRow_empty _ _ _ (Nat.le_refl _))); (focus rfl); (focus exact ((slr_blk hk 4 4 1 (by omega) (by decide) (by decide) _ rfl).alloc (by omega) _)); (focus exact (ext_ones HO.out 4 4)); (focus (first | omega | (simp; omega))); (focus (first | omega | (simp; omega))); (focus (first | omega | (simp; done) | (simp; omega)))))
  intro v1 w1 hown1 hgw
  simp only [Nat.zero_add, List.nil_append] at hown1
  obtain ⟨a1, c1, rfl⟩ := own_form hown1
  have hb1 : Below w0.heap.size w0 w1 := ((Below.refl _ _).alloc (Nat.le_refl _) _).grown hgw (by simp) (fun k hk => by
    have h : some w0.heap.size = some k := hk
    exact Nat.le_of_eq (Option.some.inj h))
  clear hgw
  have hb1s := hb1.size
  have S0' := Lib.hid ((S0.out.below hb1).more hb1.size); 
  have S1 := Lib.hid (SlR.own (bytes := 1) hown1 (by decide))
  have hk2 := Blk.below hk hb1 hk.lt
  have D2 := Lib.hid (D.out.trans (hb1.mono (by omega)))
  have hg2 := hk2.lt
  clear hk D hg hb1 hb1s hown1
  clear S0; have S0 := S0'; clear S0'; have hk := hk2
  have D := D2
  have hg := hg2
  clear hk2 D2 hg2
  go_upto_region 7 with fail
  have hcell := hk.cell
  go_upto_region 8 with (first
    | (go_at_call 58; refine (number7 x2 W2.out _).mono ?_
       rintro e w2 ⟨v2, rfl, hown2, hb1⟩
       obtain ⟨a2, c2, rfl⟩ := own_form hown2
       clear hcell
       have hb1s := hb1.size
       have S0' := Lib.hid ((S0.out.below hb1).more hb1.size); have S1' := Lib.hid ((S1.out.below hb1).more hb1.size); 
       have S2 := Lib.hid (SlR.own (bytes := 1) hown2 (by decide))
       have hk2 := Blk.below hk hb1 hk.lt
       have D2 := Lib.hid (D.out.trans (hb1.mono (by omega)))
       have hg2 := hk2.lt
       clear hk D hg hb1 hb1s hown2
       clear S0; have S0 := S0'; clear S0'; clear S1; have S1 := S1'; clear S1'; have hk := hk2
       have D := D2
       have hg := hg2
       clear hk2 D2 hg2))
  have o0 : ∀ u ∈ (cs.extract 0 (0 + 4)).toList, u.oneCell' = true := ext_ones HO.out _ _
  have l0 : ((cs.extract 0 (0 + 4)).toList).length = 4 := ext_len (by omega)
  have E0 := Lib.hid (Eq.refl ((cs.extract 0 (0 + 4)).toList))
  have o1 : ∀ u ∈ (cs.extract 4 (4 + 4)).toList, u.oneCell' = true := ext_ones HO.out _ _
  have l1 : ((cs.extract 4 (4 + 4)).toList).length = 4 := ext_len (by omega)
  have E1 := Lib.hid (Eq.refl ((cs.extract 4 (4 + 4)).toList))
  have o2 : ∀ u ∈ num8 x2, u.oneCell' = true := num8_ones _
  have l2 : (num8 x2).length = 8 := num8_len _
  have E2 := Lib.hid (Eq.refl (num8 x2))
  have hly : ly [⟨a0, 4, c0, 4, (cs.extract 0 (0 + 4)).toList⟩, ⟨a1, 4, c1, 4, (cs.extract 4 (4 + 4)).toList⟩, ⟨a2, 8, c2, 8, num8 x2⟩] = encFork cs x2 := by
    simp [ly, layB, layO, layR, encFork]
  have hlen : (encFork cs x2).length = 16 := by
    simp only [encFork, List.length_append, l0, l1, l2]
  have HLY := Lib.hid hly; have HLEN := Lib.hid hlen
  have HF : Hid (∀ p ∈ ([⟨a0, 4, c0, 4, (cs.extract 0 (0 + 4)).toList⟩, ⟨a1, 4, c1, 4, (cs.extract 4 (4 + 4)).toList⟩, ⟨a2, 8, c2, 8, num8 x2⟩] : List Pt), p.fit w2) := Lib.hid ((List.forall_mem_cons.2 ⟨fit_mk S0.out o0 (fun _ => rfl) (by decide) (by decide), (List.forall_mem_cons.2 ⟨fit_mk S1.out o1 (fun _ => rfl) (by decide) (by decide), (List.forall_mem_cons.2 ⟨fit_mk S2.out o2 (fun _ => rfl) (by decide) (by decide), (fun _ h => nomatch h)⟩)⟩)⟩))
  clear hk hly hlen o0 l0 E0 o1 l1 E1 o2 l2 E2
  go_wp2_with (first
    | (go_at_call 53
       refine (lay_rows [⟨a0, 4, c0, 4, (cs.extract 0 (0 + 4)).toList⟩, ⟨a1, 4, c1, 4, (cs.extract 4 (4 + 4)).toList⟩, ⟨a2, 8, c2, 8, num8 x2⟩] w2 3 _ _ _ _ _ rfl rfl rfl (by decide) (by decide) (by simp) HF.out).mono ?_
       rintro e wz ⟨v, rfl, hown, hbz⟩
       rw [HLY.out, HLEN.out] at hown))
  go_ret2
  exact ⟨_, rfl, own_weak hown (by omega), D.out.trans (hbz.mono (by omega))⟩

/-- Its bytes. -/
def encHead (cs : Array Value) (x0 : Int) (x1 : Int) : List Value := num8 x0 ++ num8 x1 ++ (cs.extract 2 (2 + 32)).toList ++ (cs.extract 34 (34 + 32)).toList ++ (cs.extract 66 (66 + 32)).toList
set_option maxHeartbeats 2000000 in
theorem encHead_any (cs : Array Value) (x0 : Int) (x1 : Int) (w : World) (hsz : cs.size = 98) (ho : cs.all (·.oneCell') = true) (h0 : cs[0]? = some (.int .u64 x0)) (w0 : W64 x0) (h1 : cs[1]? = some (.int .u64 x1)) (w1 : W64 x1)  :
    Calls Try.prog 47 #[.agg cs] w fun e w' => ∃ v, e = .returned (.tuple #[v, .int .i64 0]) ∧ w'.ownsRow w.heap.size 5 1 v 112 (encHead cs x0 x1) ∧ Below w.heap.size w w' := by
  obtain ⟨i0, z0, hi, hz0, hz1, hz2, hz3⟩ := info8
  have HI := Lib.hid (And.intro hi (And.intro hz0 (And.intro hz1 hz2)))
  have HZ := Lib.hid hz3
  have HO := Lib.hid ho
  have hsz1 : 98 ≤ cs.size := Nat.le_of_eq hsz.symm
  clear hi hz0 hz1 hz2 hz3 ho hsz
  have W0 := Lib.hid w0
  have W1 := Lib.hid w1
  clear w0 w1
  go_enter Try.func47, Try.ntmps47
  go_upto_region 7 with fail
  obtain ⟨wx, hwx⟩ : ∃ wx : World, wx = w.alloc (.cells cs 30) := ⟨_, rfl⟩
  have hbx : Below w.heap.size w wx := by rw [hwx]; exact (by (repeat (first | exact Below.refl _ _ | apply Below.drew | apply below_drewN | (refine Below.alloc ?_ ?_ _) | (refine below_setRow ?_ ?_ _) | (refine Below.setCell ?_ ?_ _) | (refine Below.trans ?_ (Below.mono (by assumption) ?_)) | omega | (focus (simp; done)) | (focus (simp; omega)))))
  have hk : Blk wx w.heap.size 30 cs := by rw [hwx]; exact (by (repeat (first | assumption | (apply Blk.newAt; (focus (simp; done))) | apply Blk.alloc | apply Blk.setRow | apply Blk.drewN | apply Blk.drew | (refine Blk.setRow_other ?_ ?_ _; focus (first | omega | (simp; omega))))))
  rw [← hwx]
  clear hwx
  have hg := hk.lt
  have D := Lib.hid hbx
  clear hbx
  have hcell := hk.cell
  go_upto_region 8 with (first
    | (go_at_call 58; refine (number7 x0 W0.out _).mono ?_
       rintro e w0 ⟨v0, rfl, hown0, hb1⟩
       obtain ⟨a0, c0, rfl⟩ := own_form hown0
       clear hcell
       have hb1s := hb1.size
       
       have S0 := Lib.hid (SlR.own (bytes := 1) hown0 (by decide))
       have hk2 := Blk.below hk hb1 hk.lt
       have D2 := Lib.hid (D.out.trans (hb1.mono (by omega)))
       have hg2 := hk2.lt
       clear hk D hg hb1 hb1s hown0
       have hk := hk2
       have D := D2
       have hg := hg2
       clear hk2 D2 hg2))
  have hcell := hk.cell
  go_upto_region 9 with (first
    | (go_at_call 58; refine (number7 x1 W1.out _).mono ?_
       rintro e w1 ⟨v1, rfl, hown1, hb1⟩
       obtain ⟨a1, c1, rfl⟩ := own_form hown1
       clear hcell
       have hb1s := hb1.size
       have S0' := Lib.hid ((S0.out.below hb1).more hb1.size); 
       have S1 := Lib.hid (SlR.own (bytes := 1) hown1 (by decide))
       have hk2 := Blk.below hk hb1 hk.lt
       have D2 := Lib.hid (D.out.trans (hb1.mono (by omega)))
       have hg2 := hk2.lt
       clear hk D hg hb1 hb1s hown1
       clear S0; have S0 := S0'; clear S0'; have hk := hk2
       have D := D2
       have hg := hg2
       clear hk2 D2 hg2))
  go_upto_region 10 with ((at_builtin; (with_reducible apply l_append 39 w1.heap.size); (focus exact Try.underlying39); (focus exact HI.out.1); (focus exact HI.out.2.1); (focus exact HI.out.2.2.1); (focus exact HI.out.2.2.2); (focus (first | rfl | exact HZ.out)); (focus decide); (focus rfl); (focus exact (ownsRow_empty _ _ _ (Nat.le_refl _))); (focus rfl); (focus exact ((slr_blk hk 2 32 1 (by omega) (by decide) (by decide) _ rfl).alloc (by omega) _)); (focus exact (ext_ones HO.out 2 32)); (focus (first | omega | (simp; omega))); (focus (first | omega | (simp; omega))); (focus (first | omega | (simp; done) | (simp; omega)))))
  intro v2 w2 hown2 hgw
  simp only [Nat.zero_add, List.nil_append] at hown2
  obtain ⟨a2, c2, rfl⟩ := own_form hown2
  have hb1 : Below w1.heap.size w1 w2 := ((Below.refl _ _).alloc (Nat.le_refl _) _).grown hgw (by simp) (fun k hk => by
    have h : some w1.heap.size = some k := hk
    exact Nat.le_of_eq (Option.some.inj h))
  clear hgw
  have hb1s := hb1.size
  have S0' := Lib.hid ((S0.out.below hb1).more hb1.size); have S1' := Lib.hid ((S1.out.below hb1).more hb1.size); 
  have S2 := Lib.hid (SlR.own (bytes := 1) hown2 (by decide))
  have hk2 := Blk.below hk hb1 hk.lt
  have D2 := Lib.hid (D.out.trans (hb1.mono (by omega)))
  have hg2 := hk2.lt
  clear hk D hg hb1 hb1s hown2
  clear S0; have S0 := S0'; clear S0'; clear S1; have S1 := S1'; clear S1'; have hk := hk2
  have D := D2
  have hg := hg2
  clear hk2 D2 hg2
  go_upto_region 10 with fail
  go_upto_region 11 with ((at_builtin; (with_reducible apply l_append 39 w2.heap.size); (focus exact Try.underlying39); (focus exact HI.out.1); (focus exact HI.out.2.1); (focus exact HI.out.2.2.1); (focus exact HI.out.2.2.2); (focus (first | rfl | exact HZ.out)); (focus decide); (focus rfl); (focus exact (ownsRow_empty _ _ _ (Nat.le_refl _))); (focus rfl); (focus exact ((slr_blk hk 34 32 1 (by omega) (by decide) (by decide) _ rfl).alloc (by omega) _)); (focus exact (ext_ones HO.out 34 32)); (focus (first | omega | (simp; omega))); (focus (first | omega | (simp; omega))); (focus (first | omega | (simp; done) | (simp; omega)))))
  intro v3 w3 hown3 hgw
  simp only [Nat.zero_add, List.nil_append] at hown3
  obtain ⟨a3, c3, rfl⟩ := own_form hown3
  have hb1 : Below w2.heap.size w2 w3 := ((Below.refl _ _).alloc (Nat.le_refl _) _).grown hgw (by simp) (fun k hk => by
    have h : some w2.heap.size = some k := hk
    exact Nat.le_of_eq (Option.some.inj h))
  clear hgw
  have hb1s := hb1.size
  have S0' := Lib.hid ((S0.out.below hb1).more hb1.size); have S1' := Lib.hid ((S1.out.below hb1).more hb1.size); have S2' := Lib.hid ((S2.out.below hb1).more hb1.size); 
  have S3 := Lib.hid (SlR.own (bytes := 1) hown3 (by decide))
  have hk2 := Blk.below hk hb1 hk.lt
  have D2 := Lib.hid (D.out.trans (hb1.mono (by omega)))
  have hg2 := hk2.lt
  clear hk D hg hb1 hb1s hown3
  clear S0; have S0 := S0'; clear S0'; clear S1; have S1 := S1'; clear S1'; clear S2; have S2 := S2'; clear S2'; have hk := hk2
  have D := D2
  have hg := hg2
  clear hk2 D2 hg2
  go_upto_region 11 with fail
  go_upto_region 12 with ((at_builtin; (with_reducible apply l_append 39 w3.heap.size); (focus exact Try.underlying39); (focus exact HI.out.1); (focus exact HI.out.2.1); (focus exact HI.out.2.2.1); (focus exact HI.out.2.2.2); (focus (first | rfl | exact HZ.out)); (focus decide); (focus rfl); (focus exact (ownsRow_empty _ _ _ (Nat.le_refl _))); (focus rfl); (focus exact ((slr_blk hk 66 32 1 (by omega) (by decide) (by decide) _ rfl).alloc (by omega) _)); (focus exact (ext_ones HO.out 66 32)); (focus (first | omega | (simp; omega))); (focus (first | omega | (simp; omega))); (focus (first | omega | (simp; done) | (simp; omega)))))
  intro v4 w4 hown4 hgw
  simp only [Nat.zero_add, List.nil_append] at hown4
  obtain ⟨a4, c4, rfl⟩ := own_form hown4
  have hb1 : Below w3.heap.size w3 w4 := ((Below.refl _ _).alloc (Nat.le_refl _) _).grown hgw (by simp) (fun k hk => by
    have h : some w3.heap.size = some k := hk
    exact Nat.le_of_eq (Option.some.inj h))
  clear hgw
  have hb1s := hb1.size
  have S0' := Lib.hid ((S0.out.below hb1).more hb1.size); have S1' := Lib.hid ((S1.out.below hb1).more hb1.size); have S2' := Lib.hid ((S2.out.below hb1).more hb1.size); have S3' := Lib.hid ((S3.out.below hb1).more hb1.size); 
  have S4 := Lib.hid (SlR.own (bytes := 1) hown4 (by decide))
  have hk2 := Blk.below hk hb1 hk.lt
  have D2 := Lib.hid (D.out.trans (hb1.mono (by omega)))
  have hg2 := hk2.lt
  clear hk D hg hb1 hb1s hown4
  clear S0; have S0 := S0'; clear S0'; clear S1; have S1 := S1'; clear S1'; clear S2; have S2 := S2'; clear S2'; clear S3; have S3 := S3'; clear S3'; have hk := hk2
  have D := D2
  have hg := hg2
  clear hk2 D2 hg2
  go_upto_region 12 with fail
  have o0 : ∀ u ∈ num8 x0, u.oneCell' = true := num8_ones _
  have l0 : (num8 x0).length = 8 := num8_len _
  have E0 := Lib.hid (Eq.refl (num8 x0))
  have o1 : ∀ u ∈ num8 x1, u.oneCell' = true := num8_ones _
  have l1 : (num8 x1).length = 8 := num8_len _
  have E1 := Lib.hid (Eq.refl (num8 x1))
  have o2 : ∀ u ∈ (cs.extract 2 (2 + 32)).toList, u.oneCell' = true := ext_ones HO.out _ _
  have l2 : ((cs.extract 2 (2 + 32)).toList).length = 32 := ext_len (by omega)
  have E2 := Lib.hid (Eq.refl ((cs.extract 2 (2 + 32)).toList))
  have o3 : ∀ u ∈ (cs.extract 34 (34 + 32)).toList, u.oneCell' = true := ext_ones HO.out _ _
  have l3 : ((cs.extract 34 (34 + 32)).toList).length = 32 := ext_len (by omega)
  have E3 := Lib.hid (Eq.refl ((cs.extract 34 (34 + 32)).toList))
  have o4 : ∀ u ∈ (cs.extract 66 (66 + 32)).toList, u.oneCell' = true := ext_ones HO.out _ _
  have l4 : ((cs.extract 66 (66 + 32)).toList).length = 32 := ext_len (by omega)
  have E4 := Lib.hid (Eq.refl ((cs.extract 66 (66 + 32)).toList))
  have hly : ly [⟨a0, 8, c0, 8, num8 x0⟩, ⟨a1, 8, c1, 8, num8 x1⟩, ⟨a2, 32, c2, 32, (cs.extract 2 (2 + 32)).toList⟩, ⟨a3, 32, c3, 32, (cs.extract 34 (34 + 32)).toList⟩, ⟨a4, 32, c4, 32, (cs.extract 66 (66 + 32)).toList⟩] = encHead cs x0 x1 := by
    simp [ly, layB, layO, layR, encHead]
  have hlen : (encHead cs x0 x1).length = 112 := by
    simp only [encHead, List.length_append, l0, l1, l2, l3, l4]
  have HLY := Lib.hid hly; have HLEN := Lib.hid hlen
  have HF : Hid (∀ p ∈ ([⟨a0, 8, c0, 8, num8 x0⟩, ⟨a1, 8, c1, 8, num8 x1⟩, ⟨a2, 32, c2, 32, (cs.extract 2 (2 + 32)).toList⟩, ⟨a3, 32, c3, 32, (cs.extract 34 (34 + 32)).toList⟩, ⟨a4, 32, c4, 32, (cs.extract 66 (66 + 32)).toList⟩] : List Pt), p.fit w4) := Lib.hid ((List.forall_mem_cons.2 ⟨fit_mk S0.out o0 (fun _ => rfl) (by decide) (by decide), (List.forall_mem_cons.2 ⟨fit_mk S1.out o1 (fun _ => rfl) (by decide) (by decide), (List.forall_mem_cons.2 ⟨fit_mk S2.out o2 (fun _ => rfl) (by decide) (by decide), (List.forall_mem_cons.2 ⟨fit_mk S3.out o3 (fun _ => rfl) (by decide) (by decide), (List.forall_mem_cons.2 ⟨fit_mk S4.out o4 (fun _ => rfl) (by decide) (by decide), (fun _ h => nomatch h)⟩)⟩)⟩)⟩)⟩))
  clear hk hly hlen o0 l0 E0 o1 l1 E1 o2 l2 E2 o3 l3 E3 o4 l4 E4
  go_wp2_with (first
    | (go_at_call 53
       refine (lay_rows [⟨a0, 8, c0, 8, num8 x0⟩, ⟨a1, 8, c1, 8, num8 x1⟩, ⟨a2, 32, c2, 32, (cs.extract 2 (2 + 32)).toList⟩, ⟨a3, 32, c3, 32, (cs.extract 34 (34 + 32)).toList⟩, ⟨a4, 32, c4, 32, (cs.extract 66 (66 + 32)).toList⟩] w4 5 _ _ _ _ _ rfl rfl rfl (by decide) (by decide) (by simp) HF.out).mono ?_
       rintro e wz ⟨v, rfl, hown, hbz⟩
       rw [HLY.out, HLEN.out] at hown))
  go_ret2
  exact ⟨_, rfl, own_weak hown (by omega), D.out.trans (hbz.mono (by omega))⟩

/-- Its bytes. -/
def encEth1 (cs : Array Value) (x1 : Int) : List Value := (cs.extract 0 (0 + 32)).toList ++ num8 x1 ++ (cs.extract 33 (33 + 32)).toList
set_option maxHeartbeats 2000000 in
theorem encEth1_any (cs : Array Value) (x1 : Int) (w : World) (hsz : cs.size = 65) (ho : cs.all (·.oneCell') = true) (h1 : cs[32]? = some (.int .u64 x1)) (w1 : W64 x1)  :
    Calls Try.prog 48 #[.agg cs] w fun e w' => ∃ v, e = .returned (.tuple #[v, .int .i64 0]) ∧ w'.ownsRow w.heap.size 5 1 v 72 (encEth1 cs x1) ∧ Below w.heap.size w w' := by
  obtain ⟨i0, z0, hi, hz0, hz1, hz2, hz3⟩ := info8
  have HI := Lib.hid (And.intro hi (And.intro hz0 (And.intro hz1 hz2)))
  have HZ := Lib.hid hz3
  have HO := Lib.hid ho
  have hsz1 : 65 ≤ cs.size := Nat.le_of_eq hsz.symm
  clear hi hz0 hz1 hz2 hz3 ho hsz
  have W1 := Lib.hid w1
  clear w1
  go_enter Try.func48, Try.ntmps48
  go_upto_region 5 with fail
  obtain ⟨wx, hwx⟩ : ∃ wx : World, wx = w.alloc (.cells cs 34) := ⟨_, rfl⟩
  have hbx : Below w.heap.size w wx := by rw [hwx]; exact (by (repeat (first | exact Below.refl _ _ | apply Below.drew | apply below_drewN | (refine Below.alloc ?_ ?_ _) | (refine below_setRow ?_ ?_ _) | (refine Below.setCell ?_ ?_ _) | (refine Below.trans ?_ (Below.mono (by assumption) ?_)) | omega | (focus (simp; done)) | (focus (simp; omega)))))
  have hk : Blk wx w.heap.size 34 cs := by rw [hwx]; exact (by (repeat (first | assumption | (apply Blk.newAt; (focus (simp; done))) | apply Blk.alloc | apply Blk.setRow | apply Blk.drewN | apply Blk.drew | (refine Blk.setRow_other ?_ ?_ _; focus (first | omega | (simp; omega))))))
  rw [← hwx]
  clear hwx
  have hg := hk.lt
  have D := Lib.hid hbx
  clear hbx
  go_upto_region 6 with ((at_builtin; (with_reducible apply l_append 39 wx.heap.size); (focus exact Try.underlying39); (focus exact HI.out.1); (focus exact HI.out.2.1); (focus exact HI.out.2.2.1); (focus exact HI.out.2.2.2); (focus (first | rfl | exact HZ.out)); (focus decide); (focus rfl); (focus exact (ownsRow_empty _ _ _ (Nat.le_refl _))); (focus rfl); (focus exact ((slr_blk hk 0 32 1 (by omega) (by decide) (by decide) _ rfl).alloc (by omega) _)); (focus exact (ext_ones HO.out 0 32)); (focus (first | omega | (simp; omega))); (focus (first | omega | (simp; omega))); (focus (first | omega | (simp; done) | (simp; omega)))))
  intro v0 w0 hown0 hgw
  simp only [Nat.zero_add, List.nil_append] at hown0
  obtain ⟨a0, c0, rfl⟩ := own_form hown0
  have hb1 : Below wx.heap.size wx w0 := ((Below.refl _ _).alloc (Nat.le_refl _) _).grown hgw (by simp) (fun k hk => by
    have h : some wx.heap.size = some k := hk
    exact Nat.le_of_eq (Option.some.inj h))
  clear hgw
  have hb1s := hb1.size
  
  have S0 := Lib.hid (SlR.own (bytes := 1) hown0 (by decide))
  have hk2 := Blk.below hk hb1 hk.lt
  have D2 := Lib.hid (D.out.trans (hb1.mono (by omega)))
  have hg2 := hk2.lt
  clear hk D hg hb1 hb1s hown0
  have hk := hk2
  have D := D2
  have hg := hg2
  clear hk2 D2 hg2
  go_upto_region 6 with fail
  have hcell := hk.cell
  go_upto_region 7 with (first
    | (go_at_call 58; refine (number7 x1 W1.out _).mono ?_
       rintro e w1 ⟨v1, rfl, hown1, hb1⟩
       obtain ⟨a1, c1, rfl⟩ := own_form hown1
       clear hcell
       have hb1s := hb1.size
       have S0' := Lib.hid ((S0.out.below hb1).more hb1.size); 
       have S1 := Lib.hid (SlR.own (bytes := 1) hown1 (by decide))
       have hk2 := Blk.below hk hb1 hk.lt
       have D2 := Lib.hid (D.out.trans (hb1.mono (by omega)))
       have hg2 := hk2.lt
       clear hk D hg hb1 hb1s hown1
       clear S0; have S0 := S0'; clear S0'; have hk := hk2
       have D := D2
       have hg := hg2
       clear hk2 D2 hg2))
  go_upto_region 8 with ((at_builtin; (with_reducible apply l_append 39 w1.heap.size); (focus exact Try.underlying39); (focus exact HI.out.1); (focus exact HI.out.2.1); (focus exact HI.out.2.2.1); (focus exact HI.out.2.2.2); (focus (first | rfl | exact HZ.out)); (focus decide); (focus rfl); (focus exact (ownsRow_empty _ _ _ (Nat.le_refl _))); (focus rfl); (focus exact ((slr_blk hk 33 32 1 (by omega) (by decide) (by decide) _ rfl).alloc (by omega) _)); (focus exact (ext_ones HO.out 33 32)); (focus (first | omega | (simp; omega))); (focus (first | omega | (simp; omega))); (focus (first | omega | (simp; done) | (simp; omega)))))
  intro v2 w2 hown2 hgw
  simp only [Nat.zero_add, List.nil_append] at hown2
  obtain ⟨a2, c2, rfl⟩ := own_form hown2
  have hb1 : Below w1.heap.size w1 w2 := ((Below.refl _ _).alloc (Nat.le_refl _) _).grown hgw (by simp) (fun k hk => by
    have h : some w1.heap.size = some k := hk
    exact Nat.le_of_eq (Option.some.inj h))
  clear hgw
  have hb1s := hb1.size
  have S0' := Lib.hid ((S0.out.below hb1).more hb1.size); have S1' := Lib.hid ((S1.out.below hb1).more hb1.size); 
  have S2 := Lib.hid (SlR.own (bytes := 1) hown2 (by decide))
  have hk2 := Blk.below hk hb1 hk.lt
  have D2 := Lib.hid (D.out.trans (hb1.mono (by omega)))
  have hg2 := hk2.lt
  clear hk D hg hb1 hb1s hown2
  clear S0; have S0 := S0'; clear S0'; clear S1; have S1 := S1'; clear S1'; have hk := hk2
  have D := D2
  have hg := hg2
  clear hk2 D2 hg2
  go_upto_region 8 with fail
  have o0 : ∀ u ∈ (cs.extract 0 (0 + 32)).toList, u.oneCell' = true := ext_ones HO.out _ _
  have l0 : ((cs.extract 0 (0 + 32)).toList).length = 32 := ext_len (by omega)
  have E0 := Lib.hid (Eq.refl ((cs.extract 0 (0 + 32)).toList))
  have o1 : ∀ u ∈ num8 x1, u.oneCell' = true := num8_ones _
  have l1 : (num8 x1).length = 8 := num8_len _
  have E1 := Lib.hid (Eq.refl (num8 x1))
  have o2 : ∀ u ∈ (cs.extract 33 (33 + 32)).toList, u.oneCell' = true := ext_ones HO.out _ _
  have l2 : ((cs.extract 33 (33 + 32)).toList).length = 32 := ext_len (by omega)
  have E2 := Lib.hid (Eq.refl ((cs.extract 33 (33 + 32)).toList))
  have hly : ly [⟨a0, 32, c0, 32, (cs.extract 0 (0 + 32)).toList⟩, ⟨a1, 8, c1, 8, num8 x1⟩, ⟨a2, 32, c2, 32, (cs.extract 33 (33 + 32)).toList⟩] = encEth1 cs x1 := by
    simp [ly, layB, layO, layR, encEth1]
  have hlen : (encEth1 cs x1).length = 72 := by
    simp only [encEth1, List.length_append, l0, l1, l2]
  have HLY := Lib.hid hly; have HLEN := Lib.hid hlen
  have HF : Hid (∀ p ∈ ([⟨a0, 32, c0, 32, (cs.extract 0 (0 + 32)).toList⟩, ⟨a1, 8, c1, 8, num8 x1⟩, ⟨a2, 32, c2, 32, (cs.extract 33 (33 + 32)).toList⟩] : List Pt), p.fit w2) := Lib.hid ((List.forall_mem_cons.2 ⟨fit_mk S0.out o0 (fun _ => rfl) (by decide) (by decide), (List.forall_mem_cons.2 ⟨fit_mk S1.out o1 (fun _ => rfl) (by decide) (by decide), (List.forall_mem_cons.2 ⟨fit_mk S2.out o2 (fun _ => rfl) (by decide) (by decide), (fun _ h => nomatch h)⟩)⟩)⟩))
  clear hk hly hlen o0 l0 E0 o1 l1 E1 o2 l2 E2
  go_wp2_with (first
    | (go_at_call 53
       refine (lay_rows [⟨a0, 32, c0, 32, (cs.extract 0 (0 + 32)).toList⟩, ⟨a1, 8, c1, 8, num8 x1⟩, ⟨a2, 32, c2, 32, (cs.extract 33 (33 + 32)).toList⟩] w2 3 _ _ _ _ _ rfl rfl rfl (by decide) (by decide) (by simp) HF.out).mono ?_
       rintro e wz ⟨v, rfl, hown, hbz⟩
       rw [HLY.out, HLEN.out] at hown))
  go_ret2
  exact ⟨_, rfl, own_weak hown (by omega), D.out.trans (hbz.mono (by omega))⟩

/-- Its bytes. -/
def encVal (cs : Array Value) (x2 : Int) (x4 : Int) (x5 : Int) (x6 : Int) (x7 : Int) (x3 : Bool) : List Value := (cs.extract 0 (0 + 48)).toList ++ (cs.extract 48 (48 + 32)).toList ++ num8 x2 ++ flag1 x3 ++ num8 x4 ++ num8 x5 ++ num8 x6 ++ num8 x7
set_option maxHeartbeats 2000000 in
theorem encVal_any (cs : Array Value) (x2 : Int) (x4 : Int) (x5 : Int) (x6 : Int) (x7 : Int) (x3 : Bool) (w : World) (hsz : cs.size = 86) (ho : cs.all (·.oneCell') = true) (h2 : cs[80]? = some (.int .u64 x2)) (w2 : W64 x2) (h4 : cs[82]? = some (.int .u64 x4)) (w4 : W64 x4) (h5 : cs[83]? = some (.int .u64 x5)) (w5 : W64 x5) (h6 : cs[84]? = some (.int .u64 x6)) (w6 : W64 x6) (h7 : cs[85]? = some (.int .u64 x7)) (w7 : W64 x7) (h3 : cs[81]? = some (.bool x3)) :
    Calls Try.prog 49 #[.agg cs] w fun e w' => ∃ v, e = .returned (.tuple #[v, .int .i64 0]) ∧ w'.ownsRow w.heap.size 5 1 v 121 (encVal cs x2 x4 x5 x6 x7 x3) ∧ Below w.heap.size w w' := by
  obtain ⟨i0, z0, hi, hz0, hz1, hz2, hz3⟩ := info8
  have HI := Lib.hid (And.intro hi (And.intro hz0 (And.intro hz1 hz2)))
  have HZ := Lib.hid hz3
  have HO := Lib.hid ho
  have hsz1 : 86 ≤ cs.size := Nat.le_of_eq hsz.symm
  clear hi hz0 hz1 hz2 hz3 ho hsz
  have W2 := Lib.hid w2
  have W4 := Lib.hid w4
  have W5 := Lib.hid w5
  have W6 := Lib.hid w6
  have W7 := Lib.hid w7
  clear w2 w4 w5 w6 w7
  go_enter Try.func49, Try.ntmps49
  go_upto_region 10 with fail
  obtain ⟨wx, hwx⟩ : ∃ wx : World, wx = w.alloc (.cells cs 82) := ⟨_, rfl⟩
  have hbx : Below w.heap.size w wx := by rw [hwx]; exact (by (repeat (first | exact Below.refl _ _ | apply Below.drew | apply below_drewN | (refine Below.alloc ?_ ?_ _) | (refine below_setRow ?_ ?_ _) | (refine Below.setCell ?_ ?_ _) | (refine Below.trans ?_ (Below.mono (by assumption) ?_)) | omega | (focus (simp; done)) | (focus (simp; omega)))))
  have hk : Blk wx w.heap.size 82 cs := by rw [hwx]; exact (by (repeat (first | assumption | (apply Blk.newAt; (focus (simp; done))) | apply Blk.alloc | apply Blk.setRow | apply Blk.drewN | apply Blk.drew | (refine Blk.setRow_other ?_ ?_ _; focus (first | omega | (simp; omega))))))
  rw [← hwx]
  clear hwx
  have hg := hk.lt
  have D := Lib.hid hbx
  clear hbx
  go_upto_region 11 with ((at_builtin; (with_reducible apply l_append 39 wx.heap.size); (focus exact Try.underlying39); (focus exact HI.out.1); (focus exact HI.out.2.1); (focus exact HI.out.2.2.1); (focus exact HI.out.2.2.2); (focus (first | rfl | exact HZ.out)); (focus decide); (focus rfl); (focus exact (ownsRow_empty _ _ _ (Nat.le_refl _))); (focus rfl); (focus exact ((slr_blk hk 0 48 1 (by omega) (by decide) (by decide) _ rfl).alloc (by omega) _)); (focus exact (ext_ones HO.out 0 48)); (focus (first | omega | (simp; omega))); (focus (first | omega | (simp; omega))); (focus (first | omega | (simp; done) | (simp; omega)))))
  intro v0 w0 hown0 hgw
  simp only [Nat.zero_add, List.nil_append] at hown0
  obtain ⟨a0, c0, rfl⟩ := own_form hown0
  have hb1 : Below wx.heap.size wx w0 := ((Below.refl _ _).alloc (Nat.le_refl _) _).grown hgw (by simp) (fun k hk => by
    have h : some wx.heap.size = some k := hk
    exact Nat.le_of_eq (Option.some.inj h))
  clear hgw
  have hb1s := hb1.size
  
  have S0 := Lib.hid (SlR.own (bytes := 1) hown0 (by decide))
  have hk2 := Blk.below hk hb1 hk.lt
  have D2 := Lib.hid (D.out.trans (hb1.mono (by omega)))
  have hg2 := hk2.lt
  clear hk D hg hb1 hb1s hown0
  have hk := hk2
  have D := D2
  have hg := hg2
  clear hk2 D2 hg2
  go_upto_region 11 with fail
  go_upto_region 12 with ((at_builtin; (with_reducible apply l_append 39 w0.heap.size); (focus exact Try.underlying39); (focus exact HI.out.1); (focus exact HI.out.2.1); (focus exact HI.out.2.2.1); (focus exact HI.out.2.2.2); (focus (first | rfl | exact HZ.out)); (focus decide); (focus rfl); (focus exact (ownsRow_empty _ _ _ (Nat.le_refl _))); (focus rfl); (focus exact ((slr_blk hk 48 32 1 (by omega) (by decide) (by decide) _ rfl).alloc (by omega) _)); (focus exact (ext_ones HO.out 48 32)); (focus (first | omega | (simp; omega))); (focus (first | omega | (simp; omega))); (focus (first | omega | (simp; done) | (simp; omega)))))
  intro v1 w1 hown1 hgw
  simp only [Nat.zero_add, List.nil_append] at hown1
  obtain ⟨a1, c1, rfl⟩ := own_form hown1
  have hb1 : Below w0.heap.size w0 w1 := ((Below.refl _ _).alloc (Nat.le_refl _) _).grown hgw (by simp) (fun k hk => by
    have h : some w0.heap.size = some k := hk
    exact Nat.le_of_eq (Option.some.inj h))
  clear hgw
  have hb1s := hb1.size
  have S0' := Lib.hid ((S0.out.below hb1).more hb1.size); 
  have S1 := Lib.hid (SlR.own (bytes := 1) hown1 (by decide))
  have hk2 := Blk.below hk hb1 hk.lt
  have D2 := Lib.hid (D.out.trans (hb1.mono (by omega)))
  have hg2 := hk2.lt
  clear hk D hg hb1 hb1s hown1
  clear S0; have S0 := S0'; clear S0'; have hk := hk2
  have D := D2
  have hg := hg2
  clear hk2 D2 hg2
  go_upto_region 12 with fail
  have hcell := hk.cell
  go_upto_region 13 with (first
    | (go_at_call 58; refine (number7 x2 W2.out _).mono ?_
       rintro e w2 ⟨v2, rfl, hown2, hb1⟩
       obtain ⟨a2, c2, rfl⟩ := own_form hown2
       clear hcell
       have hb1s := hb1.size
       have S0' := Lib.hid ((S0.out.below hb1).more hb1.size); have S1' := Lib.hid ((S1.out.below hb1).more hb1.size); 
       have S2 := Lib.hid (SlR.own (bytes := 1) hown2 (by decide))
       have hk2 := Blk.below hk hb1 hk.lt
       have D2 := Lib.hid (D.out.trans (hb1.mono (by omega)))
       have hg2 := hk2.lt
       clear hk D hg hb1 hb1s hown2
       clear S0; have S0 := S0'; clear S0'; clear S1; have S1 := S1'; clear S1'; have hk := hk2
       have D := D2
       have hg := hg2
       clear hk2 D2 hg2))
  have hcell := hk.cell
  go_upto_region 14 with (first
    | (go_at_call 59; refine (flag_any x3 _).mono ?_
       rintro e w3 ⟨v3, rfl, hown3, hb1⟩
       obtain ⟨a3, c3, rfl⟩ := own_form hown3
       clear hcell
       have hb1s := hb1.size
       have S0' := Lib.hid ((S0.out.below hb1).more hb1.size); have S1' := Lib.hid ((S1.out.below hb1).more hb1.size); have S2' := Lib.hid ((S2.out.below hb1).more hb1.size); 
       have S3 := Lib.hid (SlR.own (bytes := 1) hown3 (by decide))
       have hk2 := Blk.below hk hb1 hk.lt
       have D2 := Lib.hid (D.out.trans (hb1.mono (by omega)))
       have hg2 := hk2.lt
       clear hk D hg hb1 hb1s hown3
       clear S0; have S0 := S0'; clear S0'; clear S1; have S1 := S1'; clear S1'; clear S2; have S2 := S2'; clear S2'; have hk := hk2
       have D := D2
       have hg := hg2
       clear hk2 D2 hg2))
  have hcell := hk.cell
  go_upto_region 15 with (first
    | (go_at_call 58; refine (number7 x4 W4.out _).mono ?_
       rintro e w4 ⟨v4, rfl, hown4, hb1⟩
       obtain ⟨a4, c4, rfl⟩ := own_form hown4
       clear hcell
       have hb1s := hb1.size
       have S0' := Lib.hid ((S0.out.below hb1).more hb1.size); have S1' := Lib.hid ((S1.out.below hb1).more hb1.size); have S2' := Lib.hid ((S2.out.below hb1).more hb1.size); have S3' := Lib.hid ((S3.out.below hb1).more hb1.size); 
       have S4 := Lib.hid (SlR.own (bytes := 1) hown4 (by decide))
       have hk2 := Blk.below hk hb1 hk.lt
       have D2 := Lib.hid (D.out.trans (hb1.mono (by omega)))
       have hg2 := hk2.lt
       clear hk D hg hb1 hb1s hown4
       clear S0; have S0 := S0'; clear S0'; clear S1; have S1 := S1'; clear S1'; clear S2; have S2 := S2'; clear S2'; clear S3; have S3 := S3'; clear S3'; have hk := hk2
       have D := D2
       have hg := hg2
       clear hk2 D2 hg2))
  have hcell := hk.cell
  go_upto_region 16 with (first
    | (go_at_call 58; refine (number7 x5 W5.out _).mono ?_
       rintro e w5 ⟨v5, rfl, hown5, hb1⟩
       obtain ⟨a5, c5, rfl⟩ := own_form hown5
       clear hcell
       have hb1s := hb1.size
       have S0' := Lib.hid ((S0.out.below hb1).more hb1.size); have S1' := Lib.hid ((S1.out.below hb1).more hb1.size); have S2' := Lib.hid ((S2.out.below hb1).more hb1.size); have S3' := Lib.hid ((S3.out.below hb1).more hb1.size); have S4' := Lib.hid ((S4.out.below hb1).more hb1.size); 
       have S5 := Lib.hid (SlR.own (bytes := 1) hown5 (by decide))
       have hk2 := Blk.below hk hb1 hk.lt
       have D2 := Lib.hid (D.out.trans (hb1.mono (by omega)))
       have hg2 := hk2.lt
       clear hk D hg hb1 hb1s hown5
       clear S0; have S0 := S0'; clear S0'; clear S1; have S1 := S1'; clear S1'; clear S2; have S2 := S2'; clear S2'; clear S3; have S3 := S3'; clear S3'; clear S4; have S4 := S4'; clear S4'; have hk := hk2
       have D := D2
       have hg := hg2
       clear hk2 D2 hg2))
  have hcell := hk.cell
  go_upto_region 17 with (first
    | (go_at_call 58; refine (number7 x6 W6.out _).mono ?_
       rintro e w6 ⟨v6, rfl, hown6, hb1⟩
       obtain ⟨a6, c6, rfl⟩ := own_form hown6
       clear hcell
       have hb1s := hb1.size
       have S0' := Lib.hid ((S0.out.below hb1).more hb1.size); have S1' := Lib.hid ((S1.out.below hb1).more hb1.size); have S2' := Lib.hid ((S2.out.below hb1).more hb1.size); have S3' := Lib.hid ((S3.out.below hb1).more hb1.size); have S4' := Lib.hid ((S4.out.below hb1).more hb1.size); have S5' := Lib.hid ((S5.out.below hb1).more hb1.size); 
       have S6 := Lib.hid (SlR.own (bytes := 1) hown6 (by decide))
       have hk2 := Blk.below hk hb1 hk.lt
       have D2 := Lib.hid (D.out.trans (hb1.mono (by omega)))
       have hg2 := hk2.lt
       clear hk D hg hb1 hb1s hown6
       clear S0; have S0 := S0'; clear S0'; clear S1; have S1 := S1'; clear S1'; clear S2; have S2 := S2'; clear S2'; clear S3; have S3 := S3'; clear S3'; clear S4; have S4 := S4'; clear S4'; clear S5; have S5 := S5'; clear S5'; have hk := hk2
       have D := D2
       have hg := hg2
       clear hk2 D2 hg2))
  have hcell := hk.cell
  go_upto_region 18 with (first
    | (go_at_call 58; refine (number7 x7 W7.out _).mono ?_
       rintro e w7 ⟨v7, rfl, hown7, hb1⟩
       obtain ⟨a7, c7, rfl⟩ := own_form hown7
       clear hcell
       have hb1s := hb1.size
       have S0' := Lib.hid ((S0.out.below hb1).more hb1.size); have S1' := Lib.hid ((S1.out.below hb1).more hb1.size); have S2' := Lib.hid ((S2.out.below hb1).more hb1.size); have S3' := Lib.hid ((S3.out.below hb1).more hb1.size); have S4' := Lib.hid ((S4.out.below hb1).more hb1.size); have S5' := Lib.hid ((S5.out.below hb1).more hb1.size); have S6' := Lib.hid ((S6.out.below hb1).more hb1.size); 
       have S7 := Lib.hid (SlR.own (bytes := 1) hown7 (by decide))
       have hk2 := Blk.below hk hb1 hk.lt
       have D2 := Lib.hid (D.out.trans (hb1.mono (by omega)))
       have hg2 := hk2.lt
       clear hk D hg hb1 hb1s hown7
       clear S0; have S0 := S0'; clear S0'; clear S1; have S1 := S1'; clear S1'; clear S2; have S2 := S2'; clear S2'; clear S3; have S3 := S3'; clear S3'; clear S4; have S4 := S4'; clear S4'; clear S5; have S5 := S5'; clear S5'; clear S6; have S6 := S6'; clear S6'; have hk := hk2
       have D := D2
       have hg := hg2
       clear hk2 D2 hg2))
  have o0 : ∀ u ∈ (cs.extract 0 (0 + 48)).toList, u.oneCell' = true := ext_ones HO.out _ _
  have l0 : ((cs.extract 0 (0 + 48)).toList).length = 48 := ext_len (by omega)
  have E0 := Lib.hid (Eq.refl ((cs.extract 0 (0 + 48)).toList))
  have o1 : ∀ u ∈ (cs.extract 48 (48 + 32)).toList, u.oneCell' = true := ext_ones HO.out _ _
  have l1 : ((cs.extract 48 (48 + 32)).toList).length = 32 := ext_len (by omega)
  have E1 := Lib.hid (Eq.refl ((cs.extract 48 (48 + 32)).toList))
  have o2 : ∀ u ∈ num8 x2, u.oneCell' = true := num8_ones _
  have l2 : (num8 x2).length = 8 := num8_len _
  have E2 := Lib.hid (Eq.refl (num8 x2))
  have o3 : ∀ u ∈ flag1 x3, u.oneCell' = true := flag1_ones _
  have l3 : (flag1 x3).length = 1 := rfl
  have E3 := Lib.hid (Eq.refl (flag1 x3))
  have o4 : ∀ u ∈ num8 x4, u.oneCell' = true := num8_ones _
  have l4 : (num8 x4).length = 8 := num8_len _
  have E4 := Lib.hid (Eq.refl (num8 x4))
  have o5 : ∀ u ∈ num8 x5, u.oneCell' = true := num8_ones _
  have l5 : (num8 x5).length = 8 := num8_len _
  have E5 := Lib.hid (Eq.refl (num8 x5))
  have o6 : ∀ u ∈ num8 x6, u.oneCell' = true := num8_ones _
  have l6 : (num8 x6).length = 8 := num8_len _
  have E6 := Lib.hid (Eq.refl (num8 x6))
  have o7 : ∀ u ∈ num8 x7, u.oneCell' = true := num8_ones _
  have l7 : (num8 x7).length = 8 := num8_len _
  have E7 := Lib.hid (Eq.refl (num8 x7))
  have hly : ly [⟨a0, 48, c0, 48, (cs.extract 0 (0 + 48)).toList⟩, ⟨a1, 32, c1, 32, (cs.extract 48 (48 + 32)).toList⟩, ⟨a2, 8, c2, 8, num8 x2⟩, ⟨a3, 1, c3, 1, flag1 x3⟩, ⟨a4, 8, c4, 8, num8 x4⟩, ⟨a5, 8, c5, 8, num8 x5⟩, ⟨a6, 8, c6, 8, num8 x6⟩, ⟨a7, 8, c7, 8, num8 x7⟩] = encVal cs x2 x4 x5 x6 x7 x3 := by
    simp [ly, layB, layO, layR, encVal]
  have hlen : (encVal cs x2 x4 x5 x6 x7 x3).length = 121 := by
    simp only [encVal, List.length_append, l0, l1, l2, l3, l4, l5, l6, l7]
  have HLY := Lib.hid hly; have HLEN := Lib.hid hlen
  have HF : Hid (∀ p ∈ ([⟨a0, 48, c0, 48, (cs.extract 0 (0 + 48)).toList⟩, ⟨a1, 32, c1, 32, (cs.extract 48 (48 + 32)).toList⟩, ⟨a2, 8, c2, 8, num8 x2⟩, ⟨a3, 1, c3, 1, flag1 x3⟩, ⟨a4, 8, c4, 8, num8 x4⟩, ⟨a5, 8, c5, 8, num8 x5⟩, ⟨a6, 8, c6, 8, num8 x6⟩, ⟨a7, 8, c7, 8, num8 x7⟩] : List Pt), p.fit w7) := Lib.hid ((List.forall_mem_cons.2 ⟨fit_mk S0.out o0 (fun _ => rfl) (by decide) (by decide), (List.forall_mem_cons.2 ⟨fit_mk S1.out o1 (fun _ => rfl) (by decide) (by decide), (List.forall_mem_cons.2 ⟨fit_mk S2.out o2 (fun _ => rfl) (by decide) (by decide), (List.forall_mem_cons.2 ⟨fit_mk S3.out o3 (fun _ => rfl) (by decide) (by decide), (List.forall_mem_cons.2 ⟨fit_mk S4.out o4 (fun _ => rfl) (by decide) (by decide), (List.forall_mem_cons.2 ⟨fit_mk S5.out o5 (fun _ => rfl) (by decide) (by decide), (List.forall_mem_cons.2 ⟨fit_mk S6.out o6 (fun _ => rfl) (by decide) (by decide), (List.forall_mem_cons.2 ⟨fit_mk S7.out o7 (fun _ => rfl) (by decide) (by decide), (fun _ h => nomatch h)⟩)⟩)⟩)⟩)⟩)⟩)⟩)⟩))
  clear hk hly hlen o0 l0 E0 o1 l1 E1 o2 l2 E2 o3 l3 E3 o4 l4 E4 o5 l5 E5 o6 l6 E6 o7 l7 E7
  go_wp2_with (first
    | (go_at_call 53
       refine (lay_rows [⟨a0, 48, c0, 48, (cs.extract 0 (0 + 48)).toList⟩, ⟨a1, 32, c1, 32, (cs.extract 48 (48 + 32)).toList⟩, ⟨a2, 8, c2, 8, num8 x2⟩, ⟨a3, 1, c3, 1, flag1 x3⟩, ⟨a4, 8, c4, 8, num8 x4⟩, ⟨a5, 8, c5, 8, num8 x5⟩, ⟨a6, 8, c6, 8, num8 x6⟩, ⟨a7, 8, c7, 8, num8 x7⟩] w7 8 _ _ _ _ _ rfl rfl rfl (by decide) (by decide) (by simp) HF.out).mono ?_
       rintro e wz ⟨v, rfl, hown, hbz⟩
       rw [HLY.out, HLEN.out] at hown))
  go_ret2
  exact ⟨_, rfl, own_weak hown (by omega), D.out.trans (hbz.mono (by omega))⟩

end Go.Proofs.Ytikbkcidalippaa
