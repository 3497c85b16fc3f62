/-
  append of a slice that came in onto a slice of the call's own; a slice's clone.
-/
import Derived.Test.YtikbkcidalippaaLook
import Derived.Laws.AppendOwn
import Derived.Laws.AppendOwnNone
namespace Go.Proofs.Ytikbkcidalippaa
open Go.RowKit
attribute [local irreducible] Hid Blk
set_option maxRecDepth 100000

section
variable {P : Program} {ops : Array Oper} {rest : List Oper} {a : Act} {w : World} {Q : Exit → Act → World → Prop} {dst : Option Tmp} {tt : TypeId} {pos : String} {af : Array Edge}
/-- append(v, x...): v is the call's own, x came in (or is nil). -/
theorem l_append (t : TypeId) {s x : Operand} (base : Nat) {e : TypeId} {i : TypeInfo} {z : Value} {size bytes : Nat} (ht : P.underlying t = some (.slice e)) (hi : P.info? e = some i) (hz : i.zero = some z)
    (hsize : i.size = size) (hby : i.bytes = bytes) (hzs : z.cells.size = size) (hsz : 0 < size)
    {v : Value} (hs : a.eval s = v) {n0 : Nat} {xs0 : List Value} (hown : w.ownsRow base e size v n0 xs0)
    {A : Option Addr} {n c : Nat} (hx : a.eval x = .slice A n c) {B bts : Nat} {xs : List Value} (hsl : SlR w B size bts A n c xs) (h1 : ∀ u ∈ xs, u.oneCell' = true)
    (hb : (n0 + n) * bytes ≤ 140737488355328) (hm : n0 + n ≤ 9223372036854775807) (hbase : base ≤ w.heap.size)
    (h : ∀ v' w', w'.ownsRow base e size v' (n0 + n) (xs0 ++ xs) → w.grownBy w' v.ownBlock → wpList P ops Q rest (a.put dst v') w') :
    wpList P ops Q (⟨dst, .call { callee := .builtin .append, args := #[s, x], argTypes := #[t, t] }, tt, pos, af, none⟩ :: rest) a w := by
  cases A with
  | none =>
    obtain ⟨rfl, rfl⟩ := hsl.nil rfl
    have hxs : xs = [] := List.eq_nil_of_length_eq_zero (by rw [hsl.len]; simp)
    subst hxs
    exact wpList_append_own_none rfl s x t rfl base e i size ht hi v n0 xs0 hs hown hx (h v w (by simpa using hown) ⟨rfl, rfl, rfl, Nat.le_refl _, fun _ _ _ => rfl⟩)
  | some ad =>
    refine wpList_append_own w rfl s x t rfl base e i z size bytes ht hi hz hsize hby hzs hsz v n0 xs0 hs hown ad n c xs hx hsl.len ?_ h1 (by unfold maxLen; exact hm) hb hbase (fun v' w' g1 g2 _ => h v' w' g1 g2)
    intro j u hu
    rcases Nat.eq_zero_or_pos n with hn | hn
    · have := hsl.len
      rw [hn] at this
      have hxs : xs = [] := List.eq_nil_of_length_eq_zero (by rw [this]; simp)
      subst hxs
      simp at hu
    · obtain ⟨b, o, e1, _, hc⟩ := hsl.cells hn
      simp only [Option.some.injEq] at e1
      subst e1
      rw [Addr.add_mid]
      exact hc j u hu
end

theorem own_form {w : World} {base : Nat} {e : TypeId} {size : Nat} {v : Value} {n : Nat} {xs : List Value} (h : w.ownsRow base e size v n xs) : ∃ a c, v = .slice a n c := by
  rcases h.2 with ⟨rfl, rfl⟩ | ⟨g, cap, cur, rfl, _⟩
  · exact ⟨_, _, rfl⟩
  · exact ⟨_, _, rfl⟩
theorem ownsRow_empty (w : World) (e : TypeId) (size : Nat) {B : Nat} (hB : B ≤ w.heap.size) : (w.alloc (.cells #[] e)).ownsRow B e size (.slice (some ⟨w.heap.size, 0, none⟩) 0 0) 0 [] :=
  World.ownsRow_made (size := size) w #[] 0 hB (by decide) (by simp)

set_option maxHeartbeats 400000 in
theorem clone64_any (ad : Option Addr) (n c B : Nat) (xs : List Value) (w : World) (hB : B ≤ w.heap.size) (hs : SlR w B 1 8 ad n c xs) (h1 : ∀ u ∈ xs, u.oneCell' = true) :
    Calls Try.prog 42 #[.slice ad n c] w fun e w' => ∃ a' c', e = .returned (.slice a' n c') ∧ w'.ownsRow w.heap.size 22 1 (.slice a' n c') n xs ∧ Below w.heap.size w w' := by
  have hnil := fun (wx : World) => Lib.run_eql_slice_nil (P := Try.prog) wx 37 22 ad n c 0 0 Try.underlying37
  obtain ⟨z0, hz⟩ : ∃ z0, ((Try.prog.info? 22).map (fun i => (i.zero, i.size, i.bytes)) = some (some z0, 1, 8)) ∧ z0.cells.size = 1 := ⟨((Try.prog.info? 22).bind (·.zero)).getD undef, by kernel_rfl, by kernel_rfl⟩
  obtain ⟨i0, hi, hz0, hz1, hz2⟩ := info_parts hz.1
  have HI := Lib.hid (And.intro hi (And.intro hz0 (And.intro hz1 hz2)))
  have HZ := Lib.hid hz.2
  have HS := Lib.hid hs
  have H1 := Lib.hid h1
  have hr := hs.reach
  have Hn := Lib.hid hs.nil
  clear hi hz0 hz1 hz2 hs h1 hz
  cases ad with
  | none =>
    obtain ⟨h1, h2⟩ := Hn.out rfl
    subst h1; subst h2
    have hxs : xs = [] := List.eq_nil_of_length_eq_zero (by simp [HS.out.len])
    subst hxs
    go_enter Try.func42, Try.ntmps42
    go_wp2
    go_ret
    exact ⟨_, _, rfl, World.ownsRow_nil _ _ _ _, Below.refl _ _⟩
  | some ad =>
    go_enter Try.func42, Try.ntmps42
    go_wp2_with ((at_builtin; (with_reducible apply l_append 37 w.heap.size); (focus exact Try.underlying37); (focus exact HI.out.1); (focus exact HI.out.2.1); (focus exact HI.out.2.2.1); (focus exact HI.out.2.2.2); (focus (first | rfl | exact HZ.out)); (focus decide); (focus rfl); (focus exact (ownsRow_empty _ _ _ (Nat.le_refl _))); (focus rfl); (focus exact (HS.out.alloc hB _)); (focus exact H1.out); (focus (first | omega | (simp; omega))); (focus (first | omega | (simp; omega))); (focus (first | omega | (simp; done) | (simp; omega)))))
    intro v w' hown hg
    simp only [Nat.zero_add, List.nil_append] at hown
    obtain ⟨a', c', rfl⟩ := own_form hown
    have Hown := Lib.hid hown
    have Hg := Lib.hid hg
    clear hown hg
    go_wp2
    go_ret
    exact ⟨_, _, rfl, Hown.out, ((Below.refl _ _).alloc (Nat.le_refl _) _).grown Hg.out (by simp) (fun k hk => by
      have h : some w.heap.size = some k := hk
      exact Nat.le_of_eq (Option.some.inj h))⟩

set_option maxHeartbeats 400000 in
theorem clone8_any (ad : Option Addr) (n c B : Nat) (xs : List Value) (w : World) (hB : B ≤ w.heap.size) (hs : SlR w B 1 1 ad n c xs) (h1 : ∀ u ∈ xs, u.oneCell' = true) :
    Calls Try.prog 43 #[.slice ad n c] w fun e w' => ∃ a' c', e = .returned (.slice a' n c') ∧ w'.ownsRow w.heap.size 5 1 (.slice a' n c') n xs ∧ Below w.heap.size w w' := by
  have hnil := fun (wx : World) => Lib.run_eql_slice_nil (P := Try.prog) wx 39 5 ad n c 0 0 Try.underlying39
  obtain ⟨z0, hz⟩ : ∃ z0, ((Try.prog.info? 5).map (fun i => (i.zero, i.size, i.bytes)) = some (some z0, 1, 1)) ∧ z0.cells.size = 1 := ⟨((Try.prog.info? 5).bind (·.zero)).getD undef, by kernel_rfl, by kernel_rfl⟩
  obtain ⟨i0, hi, hz0, hz1, hz2⟩ := info_parts hz.1
  have HI := Lib.hid (And.intro hi (And.intro hz0 (And.intro hz1 hz2)))
  have HZ := Lib.hid hz.2
  have HS := Lib.hid hs
  have H1 := Lib.hid h1
  have hr := hs.reach
  have Hn := Lib.hid hs.nil
  clear hi hz0 hz1 hz2 hs h1 hz
  cases ad with
  | none =>
    obtain ⟨h1, h2⟩ := Hn.out rfl
    subst h1; subst h2
    have hxs : xs = [] := List.eq_nil_of_length_eq_zero (by simp [HS.out.len])
    subst hxs
    go_enter Try.func43, Try.ntmps43
    go_wp2
    go_ret
    exact ⟨_, _, rfl, World.ownsRow_nil _ _ _ _, Below.refl _ _⟩
  | some ad =>
    go_enter Try.func43, Try.ntmps43
    go_wp2_with ((at_builtin; (with_reducible apply l_append 39 w.heap.size); (focus exact Try.underlying39); (focus exact HI.out.1); (focus exact HI.out.2.1); (focus exact HI.out.2.2.1); (focus exact HI.out.2.2.2); (focus (first | rfl | exact HZ.out)); (focus decide); (focus rfl); (focus exact (ownsRow_empty _ _ _ (Nat.le_refl _))); (focus rfl); (focus exact (HS.out.alloc hB _)); (focus exact H1.out); (focus (first | omega | (simp; omega))); (focus (first | omega | (simp; omega))); (focus (first | omega | (simp; done) | (simp; omega)))))
    intro v w' hown hg
    simp only [Nat.zero_add, List.nil_append] at hown
    obtain ⟨a', c', rfl⟩ := own_form hown
    have Hown := Lib.hid hown
    have Hg := Lib.hid hg
    clear hown hg
    go_wp2
    go_ret
    exact ⟨_, _, rfl, Hown.out, ((Below.refl _ _).alloc (Nat.le_refl _) _).grown Hg.out (by simp) (fun k hk => by
      have h : some w.heap.size = some k := hk
      exact Nat.le_of_eq (Option.some.inj h))⟩

set_option maxHeartbeats 400000 in
theorem cloneRoot_any (ad : Option Addr) (n c B : Nat) (xs : List Value) (w : World) (hB : B ≤ w.heap.size) (hs : SlR w B 32 32 ad n c xs) (h1 : ∀ u ∈ xs, u.oneCell' = true) :
    Calls Try.prog 39 #[.slice ad n c] w fun e w' => ∃ a' c', e = .returned (.slice a' n c') ∧ w'.ownsRow w.heap.size 24 32 (.slice a' n c') n xs ∧ Below w.heap.size w w' := by
  have hnil := fun (wx : World) => Lib.run_eql_slice_nil (P := Try.prog) wx 32 24 ad n c 0 0 Try.underlying32
  obtain ⟨z0, hz⟩ : ∃ z0, ((Try.prog.info? 24).map (fun i => (i.zero, i.size, i.bytes)) = some (some z0, 32, 32)) ∧ z0.cells.size = 32 := ⟨((Try.prog.info? 24).bind (·.zero)).getD undef, by kernel_rfl, by kernel_rfl⟩
  obtain ⟨i0, hi, hz0, hz1, hz2⟩ := info_parts hz.1
  have HI := Lib.hid (And.intro hi (And.intro hz0 (And.intro hz1 hz2)))
  have HZ := Lib.hid hz.2
  have HS := Lib.hid hs
  have H1 := Lib.hid h1
  have hr := hs.reach
  have Hn := Lib.hid hs.nil
  clear hi hz0 hz1 hz2 hs h1 hz
  cases ad with
  | none =>
    obtain ⟨h1, h2⟩ := Hn.out rfl
    subst h1; subst h2
    have hxs : xs = [] := List.eq_nil_of_length_eq_zero (by simp [HS.out.len])
    subst hxs
    go_enter Try.func39, Try.ntmps39
    go_wp2
    go_ret
    exact ⟨_, _, rfl, World.ownsRow_nil _ _ _ _, Below.refl _ _⟩
  | some ad =>
    go_enter Try.func39, Try.ntmps39
    go_wp2_with ((at_builtin; (with_reducible apply l_append 32 w.heap.size); (focus exact Try.underlying32); (focus exact HI.out.1); (focus exact HI.out.2.1); (focus exact HI.out.2.2.1); (focus exact HI.out.2.2.2); (focus (first | rfl | exact HZ.out)); (focus decide); (focus rfl); (focus exact (ownsRow_empty _ _ _ (Nat.le_refl _))); (focus rfl); (focus exact (HS.out.alloc hB _)); (focus exact H1.out); (focus (first | omega | (simp; omega))); (focus (first | omega | (simp; omega))); (focus (first | omega | (simp; done) | (simp; omega)))))
    intro v w' hown hg
    simp only [Nat.zero_add, List.nil_append] at hown
    obtain ⟨a', c', rfl⟩ := own_form hown
    have Hown := Lib.hid hown
    have Hg := Lib.hid hg
    clear hown hg
    go_wp2
    go_ret
    exact ⟨_, _, rfl, Hown.out, ((Below.refl _ _).alloc (Nat.le_refl _) _).grown Hg.out (by simp) (fun k hk => by
      have h : some w.heap.size = some k := hk
      exact Nat.le_of_eq (Option.some.inj h))⟩

set_option maxHeartbeats 400000 in
theorem cloneEth1_any (ad : Option Addr) (n c B : Nat) (xs : List Value) (w : World) (hB : B ≤ w.heap.size) (hs : SlR w B 65 72 ad n c xs) (h1 : ∀ u ∈ xs, u.oneCell' = true) :
    Calls Try.prog 40 #[.slice ad n c] w fun e w' => ∃ a' c', e = .returned (.slice a' n c') ∧ w'.ownsRow w.heap.size 34 65 (.slice a' n c') n xs ∧ Below w.heap.size w w' := by
  have hnil := fun (wx : World) => Lib.run_eql_slice_nil (P := Try.prog) wx 35 34 ad n c 0 0 Try.underlying35
  obtain ⟨z0, hz⟩ : ∃ z0, ((Try.prog.info? 34).map (fun i => (i.zero, i.size, i.bytes)) = some (some z0, 65, 72)) ∧ z0.cells.size = 65 := ⟨((Try.prog.info? 34).bind (·.zero)).getD undef, by kernel_rfl, by kernel_rfl⟩
  obtain ⟨i0, hi, hz0, hz1, hz2⟩ := info_parts hz.1
  have HI := Lib.hid (And.intro hi (And.intro hz0 (And.intro hz1 hz2)))
  have HZ := Lib.hid hz.2
  have HS := Lib.hid hs
  have H1 := Lib.hid h1
  have hr := hs.reach
  have Hn := Lib.hid hs.nil
  clear hi hz0 hz1 hz2 hs h1 hz
  cases ad with
  | none =>
    obtain ⟨h1, h2⟩ := Hn.out rfl
    subst h1; subst h2
    have hxs : xs = [] := List.eq_nil_of_length_eq_zero (by simp [HS.out.len])
    subst hxs
    go_enter Try.func40, Try.ntmps40
    go_wp2
    go_ret
    exact ⟨_, _, rfl, World.ownsRow_nil _ _ _ _, Below.refl _ _⟩
  | some ad =>
    go_enter Try.func40, Try.ntmps40
    go_wp2_with ((at_builtin; (with_reducible apply l_append 35 w.heap.size); (focus exact Try.underlying35); (focus exact HI.out.1); (focus exact HI.out.2.1); (focus exact HI.out.2.2.1); (focus exact HI.out.2.2.2); (focus (first | rfl | exact HZ.out)); (focus decide); (focus rfl); (focus exact (ownsRow_empty _ _ _ (Nat.le_refl _))); (focus rfl); (focus exact (HS.out.alloc hB _)); (focus exact H1.out); (focus (first | omega | (simp; omega))); (focus (first | omega | (simp; omega))); (focus (first | omega | (simp; done) | (simp; omega)))))
    intro v w' hown hg
    simp only [Nat.zero_add, List.nil_append] at hown
    obtain ⟨a', c', rfl⟩ := own_form hown
    have Hown := Lib.hid hown
    have Hg := Lib.hid hg
    clear hown hg
    go_wp2
    go_ret
    exact ⟨_, _, rfl, Hown.out, ((Below.refl _ _).alloc (Nat.le_refl _) _).grown Hg.out (by simp) (fun k hk => by
      have h : some w.heap.size = some k := hk
      exact Nat.le_of_eq (Option.some.inj h))⟩

set_option maxHeartbeats 400000 in
theorem cloneVal_any (ad : Option Addr) (n c B : Nat) (xs : List Value) (w : World) (hB : B ≤ w.heap.size) (hs : SlR w B 86 128 ad n c xs) (h1 : ∀ u ∈ xs, u.oneCell' = true) :
    Calls Try.prog 41 #[.slice ad n c] w fun e w' => ∃ a' c', e = .returned (.slice a' n c') ∧ w'.ownsRow w.heap.size 82 86 (.slice a' n c') n xs ∧ Below w.heap.size w w' := by
  have hnil := fun (wx : World) => Lib.run_eql_slice_nil (P := Try.prog) wx 36 82 ad n c 0 0 Try.underlying36
  obtain ⟨z0, hz⟩ : ∃ z0, ((Try.prog.info? 82).map (fun i => (i.zero, i.size, i.bytes)) = some (some z0, 86, 128)) ∧ z0.cells.size = 86 := ⟨((Try.prog.info? 82).bind (·.zero)).getD undef, by kernel_rfl, by kernel_rfl⟩
  obtain ⟨i0, hi, hz0, hz1, hz2⟩ := info_parts hz.1
  have HI := Lib.hid (And.intro hi (And.intro hz0 (And.intro hz1 hz2)))
  have HZ := Lib.hid hz.2
  have HS := Lib.hid hs
  have H1 := Lib.hid h1
  have hr := hs.reach
  have Hn := Lib.hid hs.nil
  clear hi hz0 hz1 hz2 hs h1 hz
  cases ad with
  | none =>
    obtain ⟨h1, h2⟩ := Hn.out rfl
    subst h1; subst h2
    have hxs : xs = [] := List.eq_nil_of_length_eq_zero (by simp [HS.out.len])
    subst hxs
    go_enter Try.func41, Try.ntmps41
    go_wp2
    go_ret
    exact ⟨_, _, rfl, World.ownsRow_nil _ _ _ _, Below.refl _ _⟩
  | some ad =>
    go_enter Try.func41, Try.ntmps41
    go_wp2_with ((at_builtin; (with_reducible apply l_append 36 w.heap.size); (focus exact Try.underlying36); (focus exact HI.out.1); (focus exact HI.out.2.1); (focus exact HI.out.2.2.1); (focus exact HI.out.2.2.2); (focus (first | rfl | exact HZ.out)); (focus decide); (focus rfl); (focus exact (ownsRow_empty _ _ _ (Nat.le_refl _))); (focus rfl); (focus exact (HS.out.alloc hB _)); (focus exact H1.out); (focus (first | omega | (simp; omega))); (focus (first | omega | (simp; omega))); (focus (first | omega | (simp; done) | (simp; omega)))))
    intro v w' hown hg
    simp only [Nat.zero_add, List.nil_append] at hown
    obtain ⟨a', c', rfl⟩ := own_form hown
    have Hown := Lib.hid hown
    have Hg := Lib.hid hg
    clear hown hg
    go_wp2
    go_ret
    exact ⟨_, _, rfl, Hown.out, ((Below.refl _ _).alloc (Nat.le_refl _) _).grown Hg.out (by simp) (fun k hk => by
      have h : some w.heap.size = some k := hk
      exact Nat.le_of_eq (Option.some.inj h))⟩

end Go.Proofs.Ytikbkcidalippaa
