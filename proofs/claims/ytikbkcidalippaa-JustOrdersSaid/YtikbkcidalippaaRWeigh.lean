/-
  pharosref22.Weigh: the cells behind it are weighC's.
-/
import Derived.Test.YtikbkcidalippaaCopyR
import Derived.Test.YtikbkcidalippaaRRight
import Derived.Test.YtikbkcidalippaaRefBase
import Derived.Test.YtikbkcidalippaaWeighErr
import Derived.Test.YtikbkcidalippaaWeigh
import Derived.Test.YtikbkcidalippaaWeighs
import Derived.Test.YtikbkcidalippaaReg
namespace Go.Proofs.Ytikbkcidalippaa
open Go.RowKit
attribute [local irreducible] Hid Blk
set_option maxRecDepth 100000

set_option maxHeartbeats 1000000 in
theorem rend_any (cs : Array Value) (L : Nat → List Value) (B : Nat) (w : World) (hB : B ≤ w.heap.size) (h : IsSt w B cs L) :
    Calls Try.prog 19 #[.agg cs] w fun e w' => e = .returned (.bool (rightB cs L && (cN cs 33 % 4 == 3))) ∧ Below w.heap.size w w' := by
  obtain ⟨h33, w33a, w33b⟩ := h.wf.u64 33 rfl
  have H := Lib.hid h
  have hsz1 : 1957 ≤ cs.size := Nat.le_of_eq h.wf.size.symm
  have hsz2 : cs.size ≤ 1957 := Nat.le_of_eq h.wf.size
  clear h
  obtain ⟨r, hr⟩ : ∃ r, r = rightB cs L := ⟨_, rfl⟩
  have HR := Lib.hid hr.symm
  rw [← hr]
  clear hr
  generalize cN cs 33 = s at *
  obtain ⟨t, ht⟩ : ∃ t : Bool, t = (s % 4 == 3) := ⟨_, rfl⟩
  have ht2 : (s % 4 == 3) = t := ht.symm
  have HT := Lib.hid ht2
  rw [ht2]
  clear ht ht2
  cases r
  · go_enter Try.func19, Try.ntmps19
    go_upto_region 1 with fail
    obtain ⟨wx, hwx⟩ : ∃ wx : World, wx = w.alloc (.cells cs 49) := ⟨_, rfl⟩
    have D0 : Hid (Below w.heap.size w wx) := Lib.hid (by rw [hwx]; exact (by (repeat (first | exact Below.refl _ _ | apply Below.drew | apply below_drewN | (refine Below.alloc ?_ ?_ _) | (refine below_setRow ?_ ?_ _) | (refine Below.setCell ?_ ?_ _) | (refine Below.trans ?_ (Below.mono (by assumption) ?_)) | omega | (focus (simp; done)) | (focus (simp; omega))))))
    have hk : Blk wx w.heap.size 49 cs := by rw [hwx]; exact (by (repeat (first | assumption | (apply Blk.newAt; (focus (simp; done))) | apply Blk.alloc | apply Blk.setRow | apply Blk.drewN | apply Blk.drew | (refine Blk.setRow_other ?_ ?_ _; focus (first | omega | (simp; omega))))))
    rw [← hwx]
    clear hwx
    go_wp2_with (first
      | ((with_reducible apply l_loadw 49); (focus rfl); (focus (repeat (first | assumption | (apply Blk.newAt; (focus (simp; done))) | apply Blk.alloc | apply Blk.setRow | apply Blk.drewN | apply Blk.drew | (refine Blk.setRow_other ?_ ?_ _; focus (first | omega | (simp; omega)))))); (focus exact Try.underlying49); (focus rfl); (focus exact szState); (focus (first | exact omega | (first | omega | (simp; done) | (simp; omega) | assumption))); (try go_frame))
      | (go_at_call 33; refine (rright_any cs L B _ (by have := hk.lt; omega) (H.out.below (D0.out.mono hB))).mono ?_
         rintro e w1 ⟨rfl, hb1⟩
         rw [HR.out]
         have D1 := Lib.hid (D0.out.trans (hb1.mono (by have := hk.lt; omega)))
         clear hb1 hk))
    go_ret
    exact ⟨rfl, D1.out⟩
  · go_enter Try.func19, Try.ntmps19
    go_upto_region 1 with fail
    obtain ⟨wx, hwx⟩ : ∃ wx : World, wx = w.alloc (.cells cs 49) := ⟨_, rfl⟩
    have D0 : Hid (Below w.heap.size w wx) := Lib.hid (by rw [hwx]; exact (by (repeat (first | exact Below.refl _ _ | apply Below.drew | apply below_drewN | (refine Below.alloc ?_ ?_ _) | (refine below_setRow ?_ ?_ _) | (refine Below.setCell ?_ ?_ _) | (refine Below.trans ?_ (Below.mono (by assumption) ?_)) | omega | (focus (simp; done)) | (focus (simp; omega))))))
    have hk : Blk wx w.heap.size 49 cs := by rw [hwx]; exact (by (repeat (first | assumption | (apply Blk.newAt; (focus (simp; done))) | apply Blk.alloc | apply Blk.setRow | apply Blk.drewN | apply Blk.drew | (refine Blk.setRow_other ?_ ?_ _; focus (first | omega | (simp; omega))))))
    rw [← hwx]
    clear hwx
    go_wp2_with (first
      | ((with_reducible apply l_loadw 49); (focus rfl); (focus (repeat (first | assumption | (apply Blk.newAt; (focus (simp; done))) | apply Blk.alloc | apply Blk.setRow | apply Blk.drewN | apply Blk.drew | (refine Blk.setRow_other ?_ ?_ _; focus (first | omega | (simp; omega)))))); (focus exact Try.underlying49); (focus rfl); (focus exact szState); (focus (first | exact omega | (first | omega | (simp; done) | (simp; omega) | assumption))); (try go_frame))
      | (go_at_call 33; refine (rright_any cs L B _ (by have := hk.lt; omega) (H.out.below (D0.out.mono hB))).mono ?_
         rintro e w1 ⟨rfl, hb1⟩
         rw [HR.out]
         have D1 := Lib.hid (D0.out.trans (hb1.mono (by have := hk.lt; omega)))
         have hk1 := Blk.below hk hb1 hk.lt
         clear hb1 hk
         have hcell := hk1.cell
         have ht2 := HT.out))
    go_ret
    exact ⟨by simp, D1.out⟩

set_option maxHeartbeats 1000000 in
theorem rrootat_ok (cs : Array Value) (h : WfC cs) (sl : Int) (hs : W64 sl) (h1 : sl < cN cs 33) (h2 : cN cs 33 ≤ sl + 8) (w : World) :
    Calls Try.prog 28 #[.agg cs, .int .u64 sl] w fun e w' => e = .returned (.tuple #[.agg (rootOf cs sl), .int .i64 0]) ∧ Below w.heap.size w w' := by
  obtain ⟨h33, hw33⟩ := h.u64 33 rfl
  have hsz1 : 1957 ≤ cs.size := Nat.le_of_eq h.size.symm
  have hsz2 : cs.size ≤ 1957 := Nat.le_of_eq h.size
  have HO := Lib.hid (ones_extract h.ones (141 + (sl % 8).toNat * 32) (141 + (sl % 8).toNat * 32 + 32))
  obtain ⟨hw0, hw1⟩ := hw33
  obtain ⟨hs0, hs1⟩ := hs
  have HR := Lib.hid (show (rootOf cs sl) = cs.extract (141 + (sl % 8).toNat * 32) (141 + (sl % 8).toNat * 32 + 32) from rfl)
  clear h
  generalize cN cs 33 = s at *
  have d1 : decide (s ≤ sl) = false := decide_eq_false (by omega)
  have d2 : decide (8 < s - sl) = false := decide_eq_false (by omega)
  go_enter Try.func28, Try.ntmps28
  go_wp2_with (first
    | ((with_reducible apply l_alloc 24); (focus kernel_rfl); (try go_frame))
    | ((with_reducible apply l_load 24); (focus rfl); (focus (repeat (first | assumption | (apply Blk.newAt; (focus (simp; done))) | apply Blk.alloc | apply Blk.setRow | apply Blk.drewN | apply Blk.drew | (refine Blk.setRow_other ?_ ?_ _; focus (first | omega | (simp; omega)))))); (focus exact Try.underlying24); (focus rfl); (focus exact szRoot); (focus (first | omega | (simp; done) | (simp; omega) | assumption)); (try go_frame))
    | ((with_reducible apply l_storew 24); (focus rfl); (focus rfl); (focus (repeat (first | assumption | (apply Blk.newAt; (focus (simp; done))) | apply Blk.alloc | apply Blk.setRow | apply Blk.drewN | apply Blk.drew | (refine Blk.setRow_other ?_ ?_ _; focus (first | omega | (simp; omega)))))); (focus exact szRoot); (focus (first | exact (by simp; omega) | (first | omega | (simp; done) | (simp; omega) | assumption))); (focus (first | omega | (simp; done) | (simp; omega) | assumption)); (focus exact HO.out); (focus (repeat (first | (apply setRow_eq_at; (focus (simp; done))) | (refine setRow_eq_past ?_ ?_; (focus (first | (simp; done) | omega | (simp; omega)))) | apply setRow_eq_drewN | apply setRow_eq_drew | rfl))); (try go_frame)))
  ((with_reducible apply l_ret2); (focus rfl); (focus rfl); (focus rfl); (focus (repeat (first | assumption | (apply Blk.newAt; (focus (simp; done))) | apply Blk.alloc | apply Blk.setRow | apply Blk.drewN | apply Blk.drew | (refine Blk.setRow_other ?_ ?_ _; focus (first | omega | (simp; omega)))))); (focus exact Try.underlying24); (focus rfl); (focus exact szRoot); (focus (first | exact (by simp; omega) | (first | omega | (simp; done) | (simp; omega) | assumption))); (focus rfl))
  exact ⟨by rw [HR.out]; rfl, (by (repeat (first | exact Below.refl _ _ | apply Below.drew | apply below_drewN | (refine Below.alloc ?_ ?_ _) | (refine below_setRow ?_ ?_ _) | (refine Below.setCell ?_ ?_ _) | (refine Below.trans ?_ (Below.mono (by assumption) ?_)) | omega | (focus (simp; done)) | (focus (simp; omega)))))⟩

/-- The literal of four bools. -/
def bool4 (a b c d : Bool) : Array Value := #[.bool a, .bool b, .bool c, .bool d]
theorem szBl4 : (Try.prog.info? 40).map (·.size) = some 4 := by kernel_rfl
@[simp] theorem szzBl4 : (zc Try.prog 40).size = 4 := by kernel_rfl
theorem szBl : (Try.prog.info? 4).map (·.size) = some 1 := by kernel_rfl
theorem bb4 (a b c d : Bool) : Try.prog.built 40 [(0, .bool a), (1, .bool b), (2, .bool c), (3, .bool d)] = some (bool4 a b c d) := by
  have hs := szzBl4
  rw [built_array (by kernel_rfl) Try.underlying40 szBl]
  generalize zc Try.prog 40 = Z at hs
  obtain ⟨z0, z1, z2, z3, rfl⟩ : ∃ z0 z1 z2 z3, Z = #[z0, z1, z2, z3] := by
    rcases Z with ⟨l⟩
    match l, hs with
    | [z0, z1, z2, z3], _ => exact ⟨z0, z1, z2, z3, rfl⟩
  rfl
theorem ext_congr_ {cs cs' : Array Value} (hs : cs.size = cs'.size) (a b : Nat) (h : ∀ i, a ≤ i → i < b → cs[i]? = cs'[i]?) : cs.extract a b = cs'.extract a b := by
  apply Array.ext_getElem?
  intro i
  rw [Array.getElem?_extract, Array.getElem?_extract, hs]
  split
  · exact h _ (by omega) (by omega)
  · rfl
theorem rootOf_congr {cs c : Array Value} (hs : cs.size = c.size) (h : ∀ i, 141 ≤ i → i < 397 → cs[i]? = c[i]?) (sl : Int) : rootOf cs sl = rootOf c sl := by
  unfold rootOf
  apply Array.ext_getElem?
  intro i
  rw [Array.getElem?_extract, Array.getElem?_extract, hs]
  split
  · exact h _ (by omega) (by omega)
  · rfl
/-- The first two steps are the shift. -/
theorem shift_ref {cs cu : Array Value} (h1 : WfC cs) (h2 : WfC cu) (he : ∀ i, ¬ isSO i → cu[i]? = cs[i]?) :
    patch (patch cu 993 (cs.extract 1026 (1026 + 33))) 989 (bool4 false (cB cs 989) (cB cs 990) (cB cs 991)) = shiftC cu := by
  have s1 := h1.size
  have s2 := h2.size
  have e1 : (cs.extract 1026 (1026 + 33)).size = 33 := by simp; omega
  have e2 : (patch cu 993 (cs.extract 1026 (1026 + 33))).size = 1957 := by rw [size_patch (by omega)]; exact s2
  have e3 : ∀ a b c d, (bool4 a b c d).size = 4 := fun _ _ _ _ => rfl
  apply Array.ext_getElem?
  intro i
  by_cases a1 : i < 989 ∨ 1026 ≤ i
  · rw [shift_out s2 a1, get_patch_out (by rw [e2, e3]; omega) (by rw [e3]; omega), get_patch_out (by omega) (by omega)]
  · by_cases a2 : 993 ≤ i
    · rw [shift_old s2 a2 (by omega), get_patch_out (by rw [e2, e3]; omega) (by rw [e3]; omega), get_patch_in (by omega) (by omega) (by omega), Array.getElem?_extract, if_pos (by omega), he (i + 33) (by unfold isSO; omega)]
      exact congrArg (fun k => cs[k]?) (by omega)
    · rw [get_patch_in (by rw [e2, e3]; omega) (by omega) (by rw [e3]; omega)]
      rcases (show i = 989 ∨ i = 990 ∨ i = 991 ∨ i = 992 by omega) with rfl | rfl | rfl | rfl
      · rw [shift_bit0 s2]; rfl
      · rw [shift_bit s2 (by omega) (by omega), he 989 (by decide)]; exact (h1.bool 989 rfl).symm
      · rw [shift_bit s2 (by omega) (by omega), he 990 (by decide)]; exact (h1.bool 990 rfl).symm
      · rw [shift_bit s2 (by omega) (by omega), he 991 (by decide)]; exact (h1.bool 991 rfl).symm

/-- In the midst of it: the state that is made holds c; what was before it stands; the two checkpoints that were. -/
structure RMid (w2 w' : World) (g : Nat) (cs c : Array Value) : Prop where
  fr : Below w2.heap.size w2 w'
  blk : Blk w' w2.heap.size 49 c
  o1 : Blk w' g 42 (cs.extract 993 (993 + 33))
  o2 : Blk w' (g + 1) 42 (cs.extract 1026 (1026 + 33))
  size : g + 2 ≤ w'.heap.size
section
variable {w2 w' w'' : World} {g : Nat} {cs c : Array Value}
theorem RMid.set (h : RMid w2 w' g cs c) (h1 : w2.heap.size < g) (c' : Array Value) : RMid w2 (w'.setRow w2.heap.size c') g cs c' :=
  ⟨below_setRow h.fr (Nat.le_refl _) _, h.blk.setRow _, h.o1.setRow_other (by omega) _, h.o2.setRow_other (by omega) _, by rw [size_setRow]; exact h.size⟩
theorem RMid.alloc (h : RMid w2 w' g cs c) (h1 : w2.heap.size < g) (o : Obj) : RMid w2 (w'.alloc o) g cs c :=
  ⟨h.fr.alloc (by have := h.size; omega) _, h.blk.alloc _, h.o1.alloc _, h.o2.alloc _, by rw [World.size_alloc]; have := h.size; omega⟩
theorem RMid.below (h : RMid w2 w' g cs c) (h1 : w2.heap.size < g) (hb : Below w'.heap.size w' w'') : RMid w2 w'' g cs c := by
  have hs := h.size
  exact ⟨h.fr.trans (hb.mono (by omega)), h.blk.below hb (by omega), h.o1.below hb (by omega), h.o2.below hb (by omega), Nat.le_trans h.size hb.size⟩
theorem RMid.cell_ (h : RMid w2 w' g cs c) (h1 : w2.heap.size < g) (i : Nat) (u : Value) : RMid w2 (w'.setCell ⟨w2.heap.size, i, none⟩ u) g cs (c.setIfInBounds i u) := by
  have hb := h.blk
  unfold Blk at hb
  rw [setCell_eq_setRow w' w2.heap.size i c _ (0, 0) u hb]
  exact h.set h1 _
end
theorem _root_.Go.Proofs.Ytikbkcidalippaa.Blk.hasR {w : World} {g : Nat} {t : TypeId} {cs : Array Value} (h : Blk w g t cs) {i : Nat} (hi : i < cs.size) : ∃ u, w.cell? ⟨g, i, none⟩ = some u := ⟨cs[i], by rw [h.cell, Array.getElem?_eq_getElem hi]⟩

/-- The region n of a function's code. -/
def regionOf (n : Nat) : Code → Option Code
  | .region k ops d => if k = n then some (.region k ops d) else none
  | .seq a b => match regionOf n a with
    | some c => some c
    | none => regionOf n b
  | .block _ c => regionOf n c
  | .scope c => regionOf n c
  | .loop c => regionOf n c
  | .cond _ a b => match regionOf n a with
    | some c => some c
    | none => regionOf n b
  | _ => none
noncomputable def regAt (n : Nat) (f : Func) : Code := (f.body.bind (regionOf n)).getD .skip

set_option maxHeartbeats 4000000 in
theorem way19 {K : Act → World → Prop} {Q : Exit → Act → World → Prop} {w : World} {BV : Array Value} {gb go : Nat} {ep e : Int} {q1 q2 q3 : Bool} {u0 u1 u2 u3 u4 u5 u6 u7 u8 u9 u10 u12 u14 u15 u16 u17 u18 u20 u21 u22 u23 u24 u25 u26 u27 u28 u29 u30 u31 u32 u33 u34 u35 u36 u37 u38 u39 u40 u41 u42 u43 u44 u45 u46 u47 u48 u49 u50 u51 u52 u53 u54 u55 u56 u57 u58 u59 u60 u61 u62 u63 u64 u65 u66 u67 u68 u69 u70 u71 u72 u73 u74 u75 u76 u77 u78 u79 u80 u81 u82 u83 u84 u85 u86 u87 u88 u89 u90 u91 u92 u93 u94 u95 u96 u97 u98 u99 u100 u101 u102 u103 u104 u105 u106 u107 u108 u109 u110 u111 u112 u113 u114 u115 u116 u117 u118 u119 u120 u121 u122 u123 u124 u125 u126 u127 u128 u129 u130 u131 u132 u133 u134 u135 u136 u137 u138 u139 u140 u141 u142 u143 u144 u145 u146 u147 u148 u149 u150 u151 u152 u153 u154 u155 u156 u157 u158 u159 u160 u161 u162 u163 u164 u165 u166 : Value}
    (hB : ∀ i, w.cell? ⟨gb, i, none⟩ = BV[i]?) (hb1 : BV[1]? = some (.bool q1)) (hb2 : BV[2]? = some (.bool q2)) (hb3 : BV[3]? = some (.bool q3)) (hO : w.cell? ⟨go, 0, none⟩ = some (.int .u64 e)) (e0 : 0 ≤ e) (e1 : e ≤ 2199023255552)
    (hK : ∀ v98 v99 v100 v101 v102 v103 v104 v105 v106 v107 v108 v109 v110 v111 v112 v113 : Value, K ⟨#[u0, u1, u2, u3, u4, u5, u6, u7, u8, u9, u10, .int .u64 ep, u12, .pointer (some ⟨go, 0, none⟩), u14, u15, u16, u17, u18, .pointer (some ⟨gb, 0, none⟩), u20, u21, u22, u23, u24, u25, u26, u27, u28, u29, u30, u31, u32, u33, u34, u35, u36, u37, u38, u39, u40, u41, u42, u43, u44, u45, u46, u47, u48, u49, u50, u51, u52, u53, u54, u55, u56, u57, u58, u59, u60, u61, u62, u63, u64, u65, u66, u67, u68, u69, u70, u71, u72, u73, u74, u75, u76, u77, u78, u79, u80, u81, u82, u83, u84, u85, u86, u87, u88, u89, u90, u91, u92, u93, u94, u95, u96, u97, v98, v99, v100, v101, v102, v103, v104, v105, v106, v107, v108, v109, v110, v111, v112, v113, .bool (q1 && q2 && q3 && ((e + 3 : Int) == ep)), u115, u116, u117, u118, u119, u120, u121, u122, u123, u124, u125, u126, u127, u128, u129, u130, u131, u132, u133, u134, u135, u136, u137, u138, u139, u140, u141, u142, u143, u144, u145, u146, u147, u148, u149, u150, u151, u152, u153, u154, u155, u156, u157, u158, u159, u160, u161, u162, u163, u164, u165, u166], []⟩ w) :
    Code.wp Try.prog (regAt 19 Try.f11) (Exit.then K Q) ⟨#[u0, u1, u2, u3, u4, u5, u6, u7, u8, u9, u10, .int .u64 ep, u12, .pointer (some ⟨go, 0, none⟩), u14, u15, u16, u17, u18, .pointer (some ⟨gb, 0, none⟩), u20, u21, u22, u23, u24, u25, u26, u27, u28, u29, u30, u31, u32, u33, u34, u35, u36, u37, u38, u39, u40, u41, u42, u43, u44, u45, u46, u47, u48, u49, u50, u51, u52, u53, u54, u55, u56, u57, u58, u59, u60, u61, u62, u63, u64, u65, u66, u67, u68, u69, u70, u71, u72, u73, u74, u75, u76, u77, u78, u79, u80, u81, u82, u83, u84, u85, u86, u87, u88, u89, u90, u91, u92, u93, u94, u95, u96, u97, u98, u99, u100, u101, u102, u103, u104, u105, u106, u107, u108, u109, u110, u111, u112, u113, u114, u115, u116, u117, u118, u119, u120, u121, u122, u123, u124, u125, u126, u127, u128, u129, u130, u131, u132, u133, u134, u135, u136, u137, u138, u139, u140, u141, u142, u143, u144, u145, u146, u147, u148, u149, u150, u151, u152, u153, u154, u155, u156, u157, u158, u159, u160, u161, u162, u163, u164, u165, u166], []⟩ w := by
  conv => arg 2; whnf
  cases q1
  case false => (go_wp2_with fail; exact hK _ _ _ _ _ _ _ _ _ _ _ _ _ _ _ _)
  cases q2
  case false => (go_wp2_with fail; exact hK _ _ _ _ _ _ _ _ _ _ _ _ _ _ _ _)
  cases q3
  case false => (go_wp2_with fail; exact hK _ _ _ _ _ _ _ _ _ _ _ _ _ _ _ _)
  obtain ⟨t, ht⟩ : ∃ t : Bool, t = ((e + 3 : Int) == ep) := ⟨_, rfl⟩
  have ht2 : ((e + 3 : Int) == ep) = t := ht.symm
  rw [ht2] at hK
  clear ht
  (go_wp2_with fail; exact hK _ _ _ _ _ _ _ _ _ _ _ _ _ _ _ _)

set_option maxHeartbeats 4000000 in
theorem way21 {K : Act → World → Prop} {Q : Exit → Act → World → Prop} {w : World} {BV : Array Value} {gb go : Nat} {ep e : Int} {q1 q2 : Bool} {u0 u1 u2 u3 u4 u5 u6 u7 u8 u9 u10 u12 u14 u15 u16 u17 u18 u20 u21 u22 u23 u24 u25 u26 u27 u28 u29 u30 u31 u32 u33 u34 u35 u36 u37 u38 u39 u40 u41 u42 u43 u44 u45 u46 u47 u48 u49 u50 u51 u52 u53 u54 u55 u56 u57 u58 u59 u60 u61 u62 u63 u64 u65 u66 u67 u68 u69 u70 u71 u72 u73 u74 u75 u76 u77 u78 u79 u80 u81 u82 u83 u84 u85 u86 u87 u88 u89 u90 u91 u92 u93 u94 u95 u96 u97 u98 u99 u100 u101 u102 u103 u104 u105 u106 u107 u108 u109 u110 u111 u112 u113 u114 u115 u116 u117 u118 u119 u120 u121 u122 u123 u124 u125 u126 u127 u128 u129 u130 u131 u132 u133 u134 u135 u136 u137 u138 u139 u140 u141 u142 u143 u144 u145 u146 u147 u148 u149 u150 u151 u152 u153 u154 u155 u156 u157 u158 u159 u160 u161 u162 u163 u164 u165 u166 : Value}
    (hB : ∀ i, w.cell? ⟨gb, i, none⟩ = BV[i]?) (hb1 : BV[1]? = some (.bool q1)) (hb2 : BV[2]? = some (.bool q2)) (hO : w.cell? ⟨go, 0, none⟩ = some (.int .u64 e)) (e0 : 0 ≤ e) (e1 : e ≤ 2199023255552)
    (hK : ∀ v117 v118 v119 v120 v121 v122 v123 v124 v125 v126 v127 v128 : Value, K ⟨#[u0, u1, u2, u3, u4, u5, u6, u7, u8, u9, u10, .int .u64 ep, u12, .pointer (some ⟨go, 0, none⟩), u14, u15, u16, u17, u18, .pointer (some ⟨gb, 0, none⟩), u20, u21, u22, u23, u24, u25, u26, u27, u28, u29, u30, u31, u32, u33, u34, u35, u36, u37, u38, u39, u40, u41, u42, u43, u44, u45, u46, u47, u48, u49, u50, u51, u52, u53, u54, u55, u56, u57, u58, u59, u60, u61, u62, u63, u64, u65, u66, u67, u68, u69, u70, u71, u72, u73, u74, u75, u76, u77, u78, u79, u80, u81, u82, u83, u84, u85, u86, u87, u88, u89, u90, u91, u92, u93, u94, u95, u96, u97, u98, u99, u100, u101, u102, u103, u104, u105, u106, u107, u108, u109, u110, u111, u112, u113, u114, u115, u116, v117, v118, v119, v120, v121, v122, v123, v124, v125, v126, v127, v128, .bool (q1 && q2 && ((e + 2 : Int) == ep)), u130, u131, u132, u133, u134, u135, u136, u137, u138, u139, u140, u141, u142, u143, u144, u145, u146, u147, u148, u149, u150, u151, u152, u153, u154, u155, u156, u157, u158, u159, u160, u161, u162, u163, u164, u165, u166], []⟩ w) :
    Code.wp Try.prog (regAt 21 Try.f11) (Exit.then K Q) ⟨#[u0, u1, u2, u3, u4, u5, u6, u7, u8, u9, u10, .int .u64 ep, u12, .pointer (some ⟨go, 0, none⟩), u14, u15, u16, u17, u18, .pointer (some ⟨gb, 0, none⟩), u20, u21, u22, u23, u24, u25, u26, u27, u28, u29, u30, u31, u32, u33, u34, u35, u36, u37, u38, u39, u40, u41, u42, u43, u44, u45, u46, u47, u48, u49, u50, u51, u52, u53, u54, u55, u56, u57, u58, u59, u60, u61, u62, u63, u64, u65, u66, u67, u68, u69, u70, u71, u72, u73, u74, u75, u76, u77, u78, u79, u80, u81, u82, u83, u84, u85, u86, u87, u88, u89, u90, u91, u92, u93, u94, u95, u96, u97, u98, u99, u100, u101, u102, u103, u104, u105, u106, u107, u108, u109, u110, u111, u112, u113, u114, u115, u116, u117, u118, u119, u120, u121, u122, u123, u124, u125, u126, u127, u128, u129, u130, u131, u132, u133, u134, u135, u136, u137, u138, u139, u140, u141, u142, u143, u144, u145, u146, u147, u148, u149, u150, u151, u152, u153, u154, u155, u156, u157, u158, u159, u160, u161, u162, u163, u164, u165, u166], []⟩ w := by
  conv => arg 2; whnf
  cases q1
  case false => (go_wp2_with fail; exact hK _ _ _ _ _ _ _ _ _ _ _ _)
  cases q2
  case false => (go_wp2_with fail; exact hK _ _ _ _ _ _ _ _ _ _ _ _)
  obtain ⟨t, ht⟩ : ∃ t : Bool, t = ((e + 2 : Int) == ep) := ⟨_, rfl⟩
  have ht2 : ((e + 2 : Int) == ep) = t := ht.symm
  rw [ht2] at hK
  clear ht
  (go_wp2_with fail; exact hK _ _ _ _ _ _ _ _ _ _ _ _)

set_option maxHeartbeats 4000000 in
theorem way23 {K : Act → World → Prop} {Q : Exit → Act → World → Prop} {w : World} {BV : Array Value} {gb go : Nat} {ep e : Int} {q0 q1 q2 : Bool} {u0 u1 u2 u3 u4 u5 u6 u7 u8 u9 u10 u12 u13 u15 u16 u17 u18 u20 u21 u22 u23 u24 u25 u26 u27 u28 u29 u30 u31 u32 u33 u34 u35 u36 u37 u38 u39 u40 u41 u42 u43 u44 u45 u46 u47 u48 u49 u50 u51 u52 u53 u54 u55 u56 u57 u58 u59 u60 u61 u62 u63 u64 u65 u66 u67 u68 u69 u70 u71 u72 u73 u74 u75 u76 u77 u78 u79 u80 u81 u82 u83 u84 u85 u86 u87 u88 u89 u90 u91 u92 u93 u94 u95 u96 u97 u98 u99 u100 u101 u102 u103 u104 u105 u106 u107 u108 u109 u110 u111 u112 u113 u114 u115 u116 u117 u118 u119 u120 u121 u122 u123 u124 u125 u126 u127 u128 u129 u130 u131 u132 u133 u134 u135 u136 u137 u138 u139 u140 u141 u142 u143 u144 u145 u146 u147 u148 u149 u150 u151 u152 u153 u154 u155 u156 u157 u158 u159 u160 u161 u162 u163 u164 u165 u166 : Value}
    (hB : ∀ i, w.cell? ⟨gb, i, none⟩ = BV[i]?) (hb0 : BV[0]? = some (.bool q0)) (hb1 : BV[1]? = some (.bool q1)) (hb2 : BV[2]? = some (.bool q2)) (hO : w.cell? ⟨go, 0, none⟩ = some (.int .u64 e)) (e0 : 0 ≤ e) (e1 : e ≤ 2199023255552)
    (hK : ∀ v132 v133 v134 v135 v136 v137 v138 v139 v140 v141 v142 v143 v144 v145 v146 v147 : Value, K ⟨#[u0, u1, u2, u3, u4, u5, u6, u7, u8, u9, u10, .int .u64 ep, u12, u13, .pointer (some ⟨go, 0, none⟩), u15, u16, u17, u18, .pointer (some ⟨gb, 0, none⟩), u20, u21, u22, u23, u24, u25, u26, u27, u28, u29, u30, u31, u32, u33, u34, u35, u36, u37, u38, u39, u40, u41, u42, u43, u44, u45, u46, u47, u48, u49, u50, u51, u52, u53, u54, u55, u56, u57, u58, u59, u60, u61, u62, u63, u64, u65, u66, u67, u68, u69, u70, u71, u72, u73, u74, u75, u76, u77, u78, u79, u80, u81, u82, u83, u84, u85, u86, u87, u88, u89, u90, u91, u92, u93, u94, u95, u96, u97, u98, u99, u100, u101, u102, u103, u104, u105, u106, u107, u108, u109, u110, u111, u112, u113, u114, u115, u116, u117, u118, u119, u120, u121, u122, u123, u124, u125, u126, u127, u128, u129, u130, u131, v132, v133, v134, v135, v136, v137, v138, v139, v140, v141, v142, v143, v144, v145, v146, v147, .bool (q0 && q1 && q2 && ((e + 2 : Int) == ep)), u149, u150, u151, u152, u153, u154, u155, u156, u157, u158, u159, u160, u161, u162, u163, u164, u165, u166], []⟩ w) :
    Code.wp Try.prog (regAt 23 Try.f11) (Exit.then K Q) ⟨#[u0, u1, u2, u3, u4, u5, u6, u7, u8, u9, u10, .int .u64 ep, u12, u13, .pointer (some ⟨go, 0, none⟩), u15, u16, u17, u18, .pointer (some ⟨gb, 0, none⟩), u20, u21, u22, u23, u24, u25, u26, u27, u28, u29, u30, u31, u32, u33, u34, u35, u36, u37, u38, u39, u40, u41, u42, u43, u44, u45, u46, u47, u48, u49, u50, u51, u52, u53, u54, u55, u56, u57, u58, u59, u60, u61, u62, u63, u64, u65, u66, u67, u68, u69, u70, u71, u72, u73, u74, u75, u76, u77, u78, u79, u80, u81, u82, u83, u84, u85, u86, u87, u88, u89, u90, u91, u92, u93, u94, u95, u96, u97, u98, u99, u100, u101, u102, u103, u104, u105, u106, u107, u108, u109, u110, u111, u112, u113, u114, u115, u116, u117, u118, u119, u120, u121, u122, u123, u124, u125, u126, u127, u128, u129, u130, u131, u132, u133, u134, u135, u136, u137, u138, u139, u140, u141, u142, u143, u144, u145, u146, u147, u148, u149, u150, u151, u152, u153, u154, u155, u156, u157, u158, u159, u160, u161, u162, u163, u164, u165, u166], []⟩ w := by
  conv => arg 2; whnf
  cases q0
  case false => (go_wp2_with fail; exact hK _ _ _ _ _ _ _ _ _ _ _ _ _ _ _ _)
  cases q1
  case false => (go_wp2_with fail; exact hK _ _ _ _ _ _ _ _ _ _ _ _ _ _ _ _)
  cases q2
  case false => (go_wp2_with fail; exact hK _ _ _ _ _ _ _ _ _ _ _ _ _ _ _ _)
  obtain ⟨t, ht⟩ : ∃ t : Bool, t = ((e + 2 : Int) == ep) := ⟨_, rfl⟩
  have ht2 : ((e + 2 : Int) == ep) = t := ht.symm
  rw [ht2] at hK
  clear ht
  (go_wp2_with fail; exact hK _ _ _ _ _ _ _ _ _ _ _ _ _ _ _ _)

set_option maxHeartbeats 4000000 in
theorem way25 {K : Act → World → Prop} {Q : Exit → Act → World → Prop} {w : World} {BV : Array Value} {gb go : Nat} {ep e : Int} {q0 q1 : Bool} {u0 u1 u2 u3 u4 u5 u6 u7 u8 u9 u10 u12 u13 u15 u16 u17 u18 u20 u21 u22 u23 u24 u25 u26 u27 u28 u29 u30 u31 u32 u33 u34 u35 u36 u37 u38 u39 u40 u41 u42 u43 u44 u45 u46 u47 u48 u49 u50 u51 u52 u53 u54 u55 u56 u57 u58 u59 u60 u61 u62 u63 u64 u65 u66 u67 u68 u69 u70 u71 u72 u73 u74 u75 u76 u77 u78 u79 u80 u81 u82 u83 u84 u85 u86 u87 u88 u89 u90 u91 u92 u93 u94 u95 u96 u97 u98 u99 u100 u101 u102 u103 u104 u105 u106 u107 u108 u109 u110 u111 u112 u113 u114 u115 u116 u117 u118 u119 u120 u121 u122 u123 u124 u125 u126 u127 u128 u129 u130 u131 u132 u133 u134 u135 u136 u137 u138 u139 u140 u141 u142 u143 u144 u145 u146 u147 u148 u149 u150 u151 u152 u153 u154 u155 u156 u157 u158 u159 u160 u161 u162 u163 u164 u165 u166 : Value}
    (hB : ∀ i, w.cell? ⟨gb, i, none⟩ = BV[i]?) (hb0 : BV[0]? = some (.bool q0)) (hb1 : BV[1]? = some (.bool q1)) (hO : w.cell? ⟨go, 0, none⟩ = some (.int .u64 e)) (e0 : 0 ≤ e) (e1 : e ≤ 2199023255552)
    (hK : ∀ v151 v152 v153 v154 v155 v156 v157 v158 v159 v160 v161 v162 : Value, K ⟨#[u0, u1, u2, u3, u4, u5, u6, u7, u8, u9, u10, .int .u64 ep, u12, u13, .pointer (some ⟨go, 0, none⟩), u15, u16, u17, u18, .pointer (some ⟨gb, 0, none⟩), u20, u21, u22, u23, u24, u25, u26, u27, u28, u29, u30, u31, u32, u33, u34, u35, u36, u37, u38, u39, u40, u41, u42, u43, u44, u45, u46, u47, u48, u49, u50, u51, u52, u53, u54, u55, u56, u57, u58, u59, u60, u61, u62, u63, u64, u65, u66, u67, u68, u69, u70, u71, u72, u73, u74, u75, u76, u77, u78, u79, u80, u81, u82, u83, u84, u85, u86, u87, u88, u89, u90, u91, u92, u93, u94, u95, u96, u97, u98, u99, u100, u101, u102, u103, u104, u105, u106, u107, u108, u109, u110, u111, u112, u113, u114, u115, u116, u117, u118, u119, u120, u121, u122, u123, u124, u125, u126, u127, u128, u129, u130, u131, u132, u133, u134, u135, u136, u137, u138, u139, u140, u141, u142, u143, u144, u145, u146, u147, u148, u149, u150, v151, v152, v153, v154, v155, v156, v157, v158, v159, v160, v161, v162, .bool (q0 && q1 && ((e + 1 : Int) == ep)), u164, u165, u166], []⟩ w) :
    Code.wp Try.prog (regAt 25 Try.f11) (Exit.then K Q) ⟨#[u0, u1, u2, u3, u4, u5, u6, u7, u8, u9, u10, .int .u64 ep, u12, u13, .pointer (some ⟨go, 0, none⟩), u15, u16, u17, u18, .pointer (some ⟨gb, 0, none⟩), u20, u21, u22, u23, u24, u25, u26, u27, u28, u29, u30, u31, u32, u33, u34, u35, u36, u37, u38, u39, u40, u41, u42, u43, u44, u45, u46, u47, u48, u49, u50, u51, u52, u53, u54, u55, u56, u57, u58, u59, u60, u61, u62, u63, u64, u65, u66, u67, u68, u69, u70, u71, u72, u73, u74, u75, u76, u77, u78, u79, u80, u81, u82, u83, u84, u85, u86, u87, u88, u89, u90, u91, u92, u93, u94, u95, u96, u97, u98, u99, u100, u101, u102, u103, u104, u105, u106, u107, u108, u109, u110, u111, u112, u113, u114, u115, u116, u117, u118, u119, u120, u121, u122, u123, u124, u125, u126, u127, u128, u129, u130, u131, u132, u133, u134, u135, u136, u137, u138, u139, u140, u141, u142, u143, u144, u145, u146, u147, u148, u149, u150, u151, u152, u153, u154, u155, u156, u157, u158, u159, u160, u161, u162, u163, u164, u165, u166], []⟩ w := by
  conv => arg 2; whnf
  cases q0
  case false => (go_wp2_with fail; exact hK _ _ _ _ _ _ _ _ _ _ _ _)
  cases q1
  case false => (go_wp2_with fail; exact hK _ _ _ _ _ _ _ _ _ _ _ _)
  obtain ⟨t, ht⟩ : ∃ t : Bool, t = ((e + 1 : Int) == ep) := ⟨_, rfl⟩
  have ht2 : ((e + 1 : Int) == ep) = t := ht.symm
  rw [ht2] at hK
  clear ht
  (go_wp2_with fail; exact hK _ _ _ _ _ _ _ _ _ _ _ _)

set_option maxHeartbeats 20000000 in
theorem rweigh_ok (cs : Array Value) (L : Nat → List Value) (B : Nat) (w : World) (hB : B ≤ w.heap.size) (h : IsSt w B cs L) (hr : RightP cs L) (hm : cN cs 33 % 4 = 3) (all prev cur : Int)
    (a0 : 0 ≤ all) (a1 : all ≤ 1152921504606846976) (p0 : 0 ≤ prev) (p1 : prev ≤ 1152921504606846976) (c0_ : 0 ≤ cur) (c1_ : cur ≤ 1152921504606846976) :
    Calls Try.prog 11 #[.agg cs, .int .u64 all, .int .u64 prev, .int .u64 cur] w fun e w' => ∃ cs', e = .returned (.tuple #[.agg (weighC cs' all prev cur), .int .i64 0]) ∧ (∀ i, ¬ isSO i → cs'[i]? = cs[i]?) ∧ IsSt w' w'.heap.size cs' L ∧ Owned w' w.heap.size cs' L ∧ Below w.heap.size w w' := by
  obtain ⟨h33, w33⟩ := h.wf.u64 33 rfl
  have s1 := hr.slot
  obtain ⟨w33a, w33b⟩ := w33
  have H := Lib.hid h
  have R : Hid ((rightB cs L && (cN cs 33 % 4 == 3)) = true) := Lib.hid (by rw [rightB_yes hr, hm]; rfl)
  have Rp := Lib.hid hr
  have Hone := Lib.hid h.wf.ones
  have hsz1 : 1957 ≤ cs.size := Nat.le_of_eq h.wf.size.symm
  have hsz2 : cs.size ≤ 1957 := Nat.le_of_eq h.wf.size
  have m1 : decide (1152921504606846976 < all) = false := decide_eq_false (by omega)
  have m2 : decide (1152921504606846976 < prev) = false := decide_eq_false (by omega)
  have m3 : decide (1152921504606846976 < cur) = false := decide_eq_false (by omega)
  have Hm := Lib.hid hm
  clear h hr hm
  generalize hs : cN cs 33 = s at *
  have Hs := Lib.hid hs
  clear hs
  have HE := Lib.hid (show W64 (s / 4) from ⟨by omega, by omega⟩)
  go_enter Try.func11, Try.ntmps11
  go_upto_region 1 with ((with_reducible apply l_alloc 49); (focus kernel_rfl); (try go_frame))
  simp only [World.size_alloc]
  obtain ⟨wx, hwx⟩ : ∃ wx : World, wx = (w.alloc (.cells cs 49)).alloc (.cells (zc Try.prog 49) 49) := ⟨_, rfl⟩
  have hbx : Below w.heap.size w wx := by rw [hwx]; exact (by (repeat (first | exact Below.refl _ _ | apply Below.drew | apply below_drewN | (refine Below.alloc ?_ ?_ _) | (refine below_setRow ?_ ?_ _) | (refine Below.setCell ?_ ?_ _) | (refine Below.trans ?_ (Below.mono (by assumption) ?_)) | omega | (focus (simp; done)) | (focus (simp; omega)))))
  have hkx : Blk wx w.heap.size 49 cs := by rw [hwx]; exact (by (repeat (first | assumption | (apply Blk.newAt; (focus (simp; done))) | apply Blk.alloc | apply Blk.setRow | apply Blk.drewN | apply Blk.drew | (refine Blk.setRow_other ?_ ?_ _; focus (first | omega | (simp; omega))))))
  have hzx : Blk wx (w.heap.size + 1) 49 (zc Try.prog 49) := by rw [hwx]; exact (by (repeat (first | assumption | (apply Blk.newAt; (focus (simp; done))) | apply Blk.alloc | apply Blk.setRow | apply Blk.drewN | apply Blk.drew | (refine Blk.setRow_other ?_ ?_ _; focus (first | omega | (simp; omega))))))
  have hgx : w.heap.size + 2 ≤ wx.heap.size := by rw [hwx]; simp
  rw [← hwx]
  clear hwx
  have Bx := Lib.hid hbx
  go_upto_region 3 with (first
    | ((with_reducible apply l_loadw 49); (focus rfl); (focus (repeat (first | assumption | (apply Blk.newAt; (focus (simp; done))) | apply Blk.alloc | apply Blk.setRow | apply Blk.drewN | apply Blk.drew | (refine Blk.setRow_other ?_ ?_ _; focus (first | omega | (simp; omega)))))); (focus exact Try.underlying49); (focus rfl); (focus exact szState); (focus (first | exact omega | (first | omega | (simp; done) | (simp; omega) | assumption))); (try go_frame))
    | (go_at_call 19; refine (rend_any cs L w.heap.size _ (by omega) ?_).mono ?_
       focus (exact (H.out.more hB).below Bx.out)
       rintro e w1 ⟨rfl, hb1⟩
       rw [Hs.out, R.out]
       have hg1 : wx.heap.size ≤ w1.heap.size := hb1.size
       have hd1 : Below w.heap.size w w1 := Below.trans hbx (Below.mono hb1 (by omega))
       have hk1 : Blk w1 w.heap.size 49 cs := Blk.below hkx hb1 (by omega)
       have hz1 : Blk w1 (w.heap.size + 1) 49 (zc Try.prog 49) := Blk.below hzx hb1 (by omega)
       have D1 := Lib.hid hd1
       clear hkx hzx hbx hb1))
  clear m1 m2 m3
  go_upto_region 4 with (first
    | ((with_reducible apply l_loadw 49); (focus rfl); (focus (repeat (first | assumption | (apply Blk.newAt; (focus (simp; done))) | apply Blk.alloc | apply Blk.setRow | apply Blk.drewN | apply Blk.drew | (refine Blk.setRow_other ?_ ?_ _; focus (first | omega | (simp; omega)))))); (focus exact Try.underlying49); (focus rfl); (focus exact szState); (focus (first | exact omega | (first | omega | (simp; done) | (simp; omega) | assumption))); (try go_frame))
    | (go_at_call 9; refine (copy_any cs L w.heap.size _ (by omega) ?_).mono ?_
       focus (exact (H.out.more hB).below D1.out)
       rintro e w2 ⟨cu, rfl, hcu, hst, how, hb2⟩
       have hg2 : w1.heap.size ≤ w2.heap.size := hb2.size
       have hd2 : Below w.heap.size w w2 := Below.trans hd1 (Below.mono hb2 (by omega))
       have hk2 : Blk w2 w.heap.size 49 cs := Blk.below hk1 hb2 (by omega)
       have hz2 : Blk w2 (w.heap.size + 1) 49 (zc Try.prog 49) := Blk.below hz1 hb2 (by omega)
       have D2 := Lib.hid hd2
       have HU := Lib.hid (And.intro hcu (And.intro hst how))
       have hu1 : 1957 ≤ cu.size := Nat.le_of_eq hst.wf.size.symm
       have hu2 : cu.size ≤ 1957 := Nat.le_of_eq hst.wf.size
       have HO := Lib.hid hst.wf.ones
       clear hk1 hz1 hd1 hb2 hcu hst how)
    | ((with_reducible apply l_alloc 49); (focus kernel_rfl); (try go_frame))
    | ((with_reducible apply l_storew 49); (focus rfl); (focus rfl); (focus (repeat (first | assumption | (apply Blk.newAt; (focus (simp; done))) | apply Blk.alloc | apply Blk.setRow | apply Blk.drewN | apply Blk.drew | (refine Blk.setRow_other ?_ ?_ _; focus (first | omega | (simp; omega)))))); (focus exact szState); (focus (first | exact omega | (first | omega | (simp; done) | (simp; omega) | assumption))); (focus (first | omega | (simp; done) | (simp; omega) | assumption)); (focus exact HO.out); (focus (repeat (first | (apply setRow_eq_at; (focus (simp; done))) | (refine setRow_eq_past ?_ ?_; (focus (first | (simp; done) | omega | (simp; omega)))) | apply setRow_eq_drewN | apply setRow_eq_drew | rfl))); (try go_frame)))
  have hgg : w.heap.size + 2 ≤ w2.heap.size := by omega
  obtain ⟨w3, hw3⟩ : ∃ w3 : World, w3 = w2.alloc (.cells cu 49) := ⟨_, rfl⟩
  have hg3a : w2.heap.size + 1 ≤ w3.heap.size := by rw [hw3, World.size_alloc]; exact Nat.le_refl _
  have hk3 : Blk w3 w.heap.size 49 cs := by rw [hw3]; exact hk2.alloc _
  have K3 : Hid (Blk w3 w2.heap.size 49 cu ∧ Below w2.heap.size w2 w3) := Lib.hid (by rw [hw3]; exact ⟨Blk.new _ _ _, (Below.refl _ _).alloc (Nat.le_refl _) _⟩)
  have HX := Lib.hid (And.intro hk2 (And.intro hz2 hd2))
  rw [← hw3]
  clear hw3 hk2 hz2 hd2
  go_upto_region 5 with (first
    | ((with_reducible apply l_loadw 49); (focus rfl); (focus (repeat (first | assumption | (apply Blk.newAt; (focus (simp; done))) | apply Blk.alloc | apply Blk.setRow | apply Blk.drewN | apply Blk.drew | (refine Blk.setRow_other ?_ ?_ _; focus (first | omega | (simp; omega)))))); (focus exact Try.underlying49); (focus rfl); (focus exact szState); (focus (first | exact omega | (first | omega | (simp; done) | (simp; omega) | assumption))); (try go_frame))
    | (go_at_call 20; refine (repoch_any cs H.out.wf _).mono ?_
       rintro e w4 ⟨rfl, hb4⟩
       rw [Hs.out]
       have hk4 : Blk w4 w.heap.size 49 cs := Blk.below hk3 hb4 (by omega)
       have B4 := Lib.hid hb4
       have hg4 := hb4.size
       clear hk3 hb4))
  go_upto_region 6 with (first
    | ((with_reducible apply l_loadw 49); (focus rfl); (focus (repeat (first | assumption | (apply Blk.newAt; (focus (simp; done))) | apply Blk.alloc | apply Blk.setRow | apply Blk.drewN | apply Blk.drew | (refine Blk.setRow_other ?_ ?_ _; focus (first | omega | (simp; omega)))))); (focus exact Try.underlying49); (focus rfl); (focus exact szState); (focus (first | exact omega | (first | omega | (simp; done) | (simp; omega) | assumption))); (try go_frame))
    | (go_at_call 21; refine (rbefore_any cs H.out.wf _).mono ?_
       rintro e w5 ⟨rfl, hb5⟩
       rw [Hs.out]
       have hk5 : Blk w5 w.heap.size 49 cs := Blk.below hk4 hb5 (by omega)
       have B5 := Lib.hid (B4.out.trans (hb5.mono (by omega)))
       have hg5 := hb5.size
       clear hk4 hb5 B4))
  go_upto_region 8 with (first
    | ((with_reducible apply l_load 42); (focus rfl); (focus (repeat (first | assumption | (apply Blk.newAt; (focus (simp; done))) | apply Blk.alloc | apply Blk.setRow | apply Blk.drewN | apply Blk.drew | (refine Blk.setRow_other ?_ ?_ _; focus (first | omega | (simp; omega)))))); (focus exact Try.underlying42); (focus rfl); (focus exact szCheck); (focus (first | omega | (simp; done) | (simp; omega) | assumption)); (try go_frame))
    | ((with_reducible apply l_alloc 42); (focus kernel_rfl); (try go_frame))
    | ((with_reducible apply l_storew 42); (focus rfl); (focus rfl); (focus (repeat (first | assumption | (apply Blk.newAt; (focus (simp; done))) | apply Blk.alloc | apply Blk.setRow | apply Blk.drewN | apply Blk.drew | (refine Blk.setRow_other ?_ ?_ _; focus (first | omega | (simp; omega)))))); (focus exact szCheck); (focus (first | exact (by simp; omega) | (first | omega | (simp; done) | (simp; omega) | assumption))); (focus (first | omega | (simp; done) | (simp; omega) | assumption)); (focus exact (ones_extract Hone.out _ _)); (focus (repeat (first | (apply setRow_eq_at; (focus (simp; done))) | (refine setRow_eq_past ?_ ?_; (focus (first | (simp; done) | omega | (simp; omega)))) | apply setRow_eq_drewN | apply setRow_eq_drew | rfl))); (try go_frame)))
  simp only [World.size_alloc]
  obtain ⟨w7, hw7⟩ : ∃ w7 : World, w7 = (w5.alloc (.cells (cs.extract 993 (993 + 33)) 42)).alloc (.cells (cs.extract 1026 (1026 + 33)) 42) := ⟨_, rfl⟩
  have hgA : w2.heap.size < w5.heap.size := by omega
  have M7 : RMid w2 w7 w5.heap.size cs cu := by
    rw [hw7]
    exact ⟨((K3.out.2.trans (B5.out.mono (by omega))).alloc (by omega) _).alloc (by simp; omega) _, ((K3.out.1.below B5.out (by omega)).alloc _).alloc _, (Blk.new _ _ _).alloc _, Blk.newAt (by simp), by simp⟩
  rw [← hw7]
  clear hw7 hk5 K3 B5 hg4 hg5 hg3a
  obtain ⟨g, hg⟩ : ∃ g, g = w5.heap.size := ⟨_, rfl⟩
  rw [← hg] at M7 hgA
  rw [← hg]
  clear hg
  have hxk := HX.out.1.below M7.fr (by omega)
  have hblk := M7.blk
  go_upto_region 9 with (first
    | ((with_reducible apply l_load 42); (focus rfl); (focus (repeat (first | assumption | (apply Blk.newAt; (focus (simp; done))) | apply Blk.alloc | apply Blk.setRow | apply Blk.drewN | apply Blk.drew | (refine Blk.setRow_other ?_ ?_ _; focus (first | omega | (simp; omega)))))); (focus exact Try.underlying42); (focus rfl); (focus exact szCheck); (focus (first | omega | (simp; done) | (simp; omega) | assumption)); (try go_frame))
    | ((with_reducible apply l_store 42); (focus rfl); (focus rfl); (focus (repeat (first | assumption | (apply Blk.newAt; (focus (simp; done))) | apply Blk.alloc | apply Blk.setRow | apply Blk.drewN | apply Blk.drew | (refine Blk.setRow_other ?_ ?_ _; focus (first | omega | (simp; omega)))))); (focus exact szCheck); (focus (first | exact (by simp; omega) | (first | omega | (simp; done) | (simp; omega) | assumption))); (focus (first | omega | (simp; done) | (simp; omega) | assumption)); (focus exact (ones_extract Hone.out _ _)); (focus (repeat (first | (apply setRow_eq_at; (focus (simp; done))) | (refine setRow_eq_past ?_ ?_; (focus (first | (simp; done) | omega | (simp; omega)))) | apply setRow_eq_drewN | apply setRow_eq_drew | rfl))); (try go_frame)))
  obtain ⟨c8, hc8⟩ : ∃ c8, c8 = patch cu 993 (cs.extract 1026 (1026 + 33)) := ⟨_, rfl⟩
  rw [← hc8]
  have hs8 : 1957 ≤ c8.size := by rw [hc8, size_patch (by simp; omega)]; exact hu1
  obtain ⟨w8, hw8⟩ : ∃ w8 : World, w8 = w7.setRow w2.heap.size c8 := ⟨_, rfl⟩
  have M8 : RMid w2 w8 g cs c8 := by rw [hw8]; exact M7.set hgA _
  rw [← hw8]
  clear hw8 M7 hxk hblk
  have HSH : Hid (patch c8 989 (bool4 false (cB cs 989) (cB cs 990) (cB cs 991)) = shiftC cu) := Lib.hid (by rw [hc8]; exact shift_ref H.out.wf HU.out.2.1.wf HU.out.1)
  clear hc8
  have hq0 := H.out.wf.bool 989 rfl
  have hq1 := H.out.wf.bool 990 rfl
  have hq2 := H.out.wf.bool 991 rfl
  generalize cB cs 989 = q0 at *
  generalize cB cs 990 = q1 at *
  generalize cB cs 991 = q2 at *
  have hcell := (HX.out.1.below M8.fr (by omega)).cell
  have hblk := M8.blk
  go_upto_region 10 with (first
    | ((with_reducible apply l_build 40); (focus rfl); (focus exact (bb4 _ _ _ _)); (try go_frame))
    | ((with_reducible apply l_store 40); (focus rfl); (focus rfl); (focus (repeat (first | assumption | (apply Blk.newAt; (focus (simp; done))) | apply Blk.alloc | apply Blk.setRow | apply Blk.drewN | apply Blk.drew | (refine Blk.setRow_other ?_ ?_ _; focus (first | omega | (simp; omega)))))); (focus exact szBl4); (focus (first | exact (show (bool4 false q0 q1 q2).size = 4 from rfl) | (first | omega | (simp; done) | (simp; omega) | assumption))); (focus (first | omega | (simp; done) | (simp; omega) | assumption)); (focus exact (show (bool4 false q0 q1 q2).all (·.oneCell') = true by simp [bool4, Value.oneCell'])); (focus (repeat (first | (apply setRow_eq_at; (focus (simp; done))) | (refine setRow_eq_past ?_ ?_; (focus (first | (simp; done) | omega | (simp; omega)))) | apply setRow_eq_drewN | apply setRow_eq_drew | rfl))); (try go_frame)))
  obtain ⟨c6, hc6⟩ : ∃ c6, c6 = shiftC cu := ⟨_, rfl⟩
  rw [HSH.out, ← hc6]
  obtain ⟨w9, hw9⟩ : ∃ w9 : World, w9 = w8.setRow w2.heap.size c6 := ⟨_, rfl⟩
  have hM9 : Hid (RMid w2 w9 g cs c6) := Lib.hid (by rw [hw9]; exact M8.set hgA _)
  rw [← hw9]
  have Wf6 : Hid (WfC c6) := Lib.hid (by rw [hc6]; exact HU.out.2.1.wf.shift)
  have HR6 : Hid (∀ sl, rootOf cs sl = rootOf c6 sl) := Lib.hid (by
    intro sl
    refine rootOf_congr (by rw [H.out.wf.size, Wf6.out.size]) (fun i h1 h2 => ?_) sl
    rw [hc6, shift_out HU.out.2.1.wf.size (by omega), HU.out.1 i (by unfold isSO; omega)]) 
  have C6 := Lib.hid hc6
  clear hw9 hc6 M8 hblk hcell hq0 hq1 hq2 HSH hs8
  have hs6 : 1957 ≤ c6.size := Nat.le_of_eq Wf6.out.size.symm
  go_upto_if 64 with fail
  go_cut [] (fun wq => Hid (RMid w2 wq g cs (prevC c6 (s / 4) all prev)))
  case first =>
    by_cases hp : 2 * all ≤ 3 * prev
    · have HP := Lib.hid (show prevC c6 (s / 4) all prev = markC c6 (subz (s / 4) 1) 990 from if_pos hp)
      have hsz : W64 (subz (s / 4) 1) := subz_w HE.out (b := 1) ⟨by omega, by omega⟩
      have hr1 : (subz (s / 4) 1) * 4 < s ∧ s ≤ (subz (s / 4) 1) * 4 + 8 := by
        have := Hm.out
        unfold subz; split <;> omega
      generalize subz (s / 4) 1 = ep at *
      have HSZ := Lib.hid hsz
      have HR1 := Lib.hid hr1
      obtain ⟨e0, e1⟩ := hsz
      obtain ⟨e2, e3⟩ := hr1
      obtain ⟨r, hr⟩ : ∃ r, r = rootOf cs (ep * 4) := ⟨_, rfl⟩
      have HRT := Lib.hid hr
      have hrs : Hid (r.size = 32) := Lib.hid (by rw [hr]; exact size_rootOf H.out.wf.size _)
      have hro : Hid (r.all (·.oneCell') = true) := Lib.hid (by rw [hr]; exact ones_extract Hone.out _ _)
      have HMK : Hid ((patch c6 1026 (chk ep r)).setIfInBounds 990 (.bool true) = markC c6 ep 990) := Lib.hid (by rw [hr, HR6.out]; rfl)
      clear hr
      have hxk := HX.out.1.below hM9.out.fr (by omega)
      have hgz := hM9.out.size
      go_upto_region 12 with (first
        | ((with_reducible apply l_loadw 49); (focus rfl); (focus (repeat (first | assumption | (apply Blk.newAt; (focus (simp; done))) | apply Blk.alloc | apply Blk.setRow | apply Blk.drewN | apply Blk.drew | (refine Blk.setRow_other ?_ ?_ _; focus (first | omega | (simp; omega)))))); (focus exact Try.underlying49); (focus rfl); (focus exact szState); (focus (first | exact omega | (first | omega | (simp; done) | (simp; omega) | assumption))); (try go_frame))
        | (go_at_call 28
           refine (rrootat_ok cs H.out.wf (ep * 4) ⟨by omega, by omega⟩ (by rw [Hs.out]; omega) (by rw [Hs.out]; omega) _).mono ?_
           rintro e wr ⟨rfl, hbr⟩
           rw [← HRT.out]
           have hMr := Lib.hid (hM9.out.below hgA hbr)
           clear hbr hxk)
        | ((with_reducible apply l_alloc 24); (focus kernel_rfl); (try go_frame))
        | ((with_reducible apply l_storew 24); (focus rfl); (focus rfl); (focus (repeat (first | assumption | (apply Blk.newAt; (focus (simp; done))) | apply Blk.alloc | apply Blk.setRow | apply Blk.drewN | apply Blk.drew | (refine Blk.setRow_other ?_ ?_ _; focus (first | omega | (simp; omega)))))); (focus exact szRoot); (focus (first | exact hrs.out | (first | omega | (simp; done) | (simp; omega) | assumption))); (focus (first | omega | (simp; done) | (simp; omega) | assumption)); (focus exact hro.out); (focus (repeat (first | (apply setRow_eq_at; (focus (simp; done))) | (refine setRow_eq_past ?_ ?_; (focus (first | (simp; done) | omega | (simp; omega)))) | apply setRow_eq_drewN | apply setRow_eq_drew | rfl))); (try go_frame)))
      obtain ⟨wa, hwa⟩ : ∃ wa : World, wa = wr.alloc (.cells r 24) := ⟨_, rfl⟩
      have hMa : Hid (RMid w2 wa g cs c6) := Lib.hid (by rw [hwa]; exact hMr.out.alloc hgA _)
      have hra : Blk wa wr.heap.size 24 r := by rw [hwa]; exact Blk.new _ _ _
      rw [← hwa]
      clear hwa
      have hblk := hMa.out.blk
      have hrz1 : 32 ≤ r.size := Nat.le_of_eq hrs.out.symm
      have hrz2 : r.size ≤ 32 := Nat.le_of_eq hrs.out
      go_upto_region 13 with (first
        | ((with_reducible apply l_loadw 24); (focus rfl); (focus (repeat (first | assumption | (apply Blk.newAt; (focus (simp; done))) | apply Blk.alloc | apply Blk.setRow | apply Blk.drewN | apply Blk.drew | (refine Blk.setRow_other ?_ ?_ _; focus (first | omega | (simp; omega)))))); (focus exact Try.underlying24); (focus rfl); (focus exact szRoot); (focus (first | exact omega | (first | omega | (simp; done) | (simp; omega) | assumption))); (try go_frame))
        | ((with_reducible apply l_build 42); (focus rfl); (focus exact (built_chk _ _ hrs.out)); (try go_frame))
        | ((with_reducible apply l_store 42); (focus rfl); (focus rfl); (focus (repeat (first | assumption | (apply Blk.newAt; (focus (simp; done))) | apply Blk.alloc | apply Blk.setRow | apply Blk.drewN | apply Blk.drew | (refine Blk.setRow_other ?_ ?_ _; focus (first | omega | (simp; omega)))))); (focus exact szCheck); (focus (first | exact (size_chk hrs.out) | (first | omega | (simp; done) | (simp; omega) | assumption))); (focus (first | omega | (simp; done) | (simp; omega) | assumption)); (focus exact (ones_chk hro.out)); (focus (repeat (first | (apply setRow_eq_at; (focus (simp; done))) | (refine setRow_eq_past ?_ ?_; (focus (first | (simp; done) | omega | (simp; omega)))) | apply setRow_eq_drewN | apply setRow_eq_drew | rfl))); (try go_frame)))
      obtain ⟨c5, hc5⟩ : ∃ c5, c5 = patch c6 1026 (chk ep r) := ⟨_, rfl⟩
      rw [← hc5] at HMK
      rw [← hc5]
      have hs5 : 1957 ≤ c5.size := by rw [hc5, size_patch (by rw [size_chk hrs.out]; omega)]; exact hs6
      obtain ⟨wb, hwb⟩ : ∃ wb : World, wb = wa.setRow w2.heap.size c5 := ⟨_, rfl⟩
      have hMb : Hid (RMid w2 wb g cs c5) := Lib.hid (by rw [hwb]; exact hMa.out.set hgA _)
      rw [← hwb]
      clear hwb hblk hra hc5
      have hfz := hMb.out.blk.frozen
      obtain ⟨u8, hcl8⟩ := hMb.out.blk.hasR (i := 990) (by omega)
      go_wp2_with fail
      go_meet
      refine Lib.hid ?_
      rw [HP.out, ← HMK.out]
      exact hMb.out.cell_ hgA 990 (.bool true)
    · have HP := Lib.hid (show prevC c6 (s / 4) all prev = c6 from if_neg hp)
      go_wp2_with fail
      go_meet
      exact Lib.hid (by rw [HP.out]; exact hM9.out)
  case rest =>
  rename World => w12
  have hM12 := hcut
  obtain ⟨c9, hce⟩ : ∃ c, c = prevC c6 (s / 4) all prev := ⟨_, rfl⟩
  have Wf9 : Hid (WfC c9) := Lib.hid (by rw [hce]; exact Wf6.out.prev HE.out)
  rw [← hce] at hM12
  have HE_c9 := Lib.hid hce
  have HR9 : Hid (∀ sl, rootOf cs sl = rootOf c9 sl) := Lib.hid (by
    intro sl
    rw [HR6.out]
    refine rootOf_congr (by rw [Wf6.out.size, Wf9.out.size]) (fun i h1 h2 => ?_) sl
    rw [hce, prev_out Wf6.out.size (by omega) (by omega)])
  clear hce hcut hM9
  have hs9 : 1957 ≤ c9.size := Nat.le_of_eq Wf9.out.size.symm
  go_upto_if 82 with fail
  go_cut [] (fun wq => Hid (RMid w2 wq g cs (curC c9 (s / 4) all cur)))
  case first =>
    by_cases hp : 2 * all ≤ 3 * cur
    · have HP := Lib.hid (show curC c9 (s / 4) all cur = markC c9 (s / 4) 989 from if_pos hp)
      have hsz : W64 (s / 4) := HE.out
      have hr1 : (s / 4) * 4 < s ∧ s ≤ (s / 4) * 4 + 8 := by
        have := Hm.out
        omega
      generalize s / 4 = ep at *
      have HSZ := Lib.hid hsz
      have HR1 := Lib.hid hr1
      obtain ⟨e0, e1⟩ := hsz
      obtain ⟨e2, e3⟩ := hr1
      obtain ⟨r, hr⟩ : ∃ r, r = rootOf cs (ep * 4) := ⟨_, rfl⟩
      have HRT := Lib.hid hr
      have hrs : Hid (r.size = 32) := Lib.hid (by rw [hr]; exact size_rootOf H.out.wf.size _)
      have hro : Hid (r.all (·.oneCell') = true) := Lib.hid (by rw [hr]; exact ones_extract Hone.out _ _)
      have HMK : Hid ((patch c9 1026 (chk ep r)).setIfInBounds 989 (.bool true) = markC c9 ep 989) := Lib.hid (by rw [hr, HR9.out]; rfl)
      clear hr
      have hxk := HX.out.1.below hM12.out.fr (by omega)
      have hgz := hM12.out.size
      go_upto_region 16 with (first
        | ((with_reducible apply l_loadw 49); (focus rfl); (focus (repeat (first | assumption | (apply Blk.newAt; (focus (simp; done))) | apply Blk.alloc | apply Blk.setRow | apply Blk.drewN | apply Blk.drew | (refine Blk.setRow_other ?_ ?_ _; focus (first | omega | (simp; omega)))))); (focus exact Try.underlying49); (focus rfl); (focus exact szState); (focus (first | exact omega | (first | omega | (simp; done) | (simp; omega) | assumption))); (try go_frame))
        | (go_at_call 28
           refine (rrootat_ok cs H.out.wf (ep * 4) ⟨by omega, by omega⟩ (by rw [Hs.out]; omega) (by rw [Hs.out]; omega) _).mono ?_
           rintro e wr ⟨rfl, hbr⟩
           rw [← HRT.out]
           have hMr := Lib.hid (hM12.out.below hgA hbr)
           clear hbr hxk)
        | ((with_reducible apply l_alloc 24); (focus kernel_rfl); (try go_frame))
        | ((with_reducible apply l_storew 24); (focus rfl); (focus rfl); (focus (repeat (first | assumption | (apply Blk.newAt; (focus (simp; done))) | apply Blk.alloc | apply Blk.setRow | apply Blk.drewN | apply Blk.drew | (refine Blk.setRow_other ?_ ?_ _; focus (first | omega | (simp; omega)))))); (focus exact szRoot); (focus (first | exact hrs.out | (first | omega | (simp; done) | (simp; omega) | assumption))); (focus (first | omega | (simp; done) | (simp; omega) | assumption)); (focus exact hro.out); (focus (repeat (first | (apply setRow_eq_at; (focus (simp; done))) | (refine setRow_eq_past ?_ ?_; (focus (first | (simp; done) | omega | (simp; omega)))) | apply setRow_eq_drewN | apply setRow_eq_drew | rfl))); (try go_frame)))
      obtain ⟨wa, hwa⟩ : ∃ wa : World, wa = wr.alloc (.cells r 24) := ⟨_, rfl⟩
      have hMa : Hid (RMid w2 wa g cs c9) := Lib.hid (by rw [hwa]; exact hMr.out.alloc hgA _)
      have hra : Blk wa wr.heap.size 24 r := by rw [hwa]; exact Blk.new _ _ _
      rw [← hwa]
      clear hwa
      have hblk := hMa.out.blk
      have hrz1 : 32 ≤ r.size := Nat.le_of_eq hrs.out.symm
      have hrz2 : r.size ≤ 32 := Nat.le_of_eq hrs.out
      go_upto_region 17 with (first
        | ((with_reducible apply l_loadw 24); (focus rfl); (focus (repeat (first | assumption | (apply Blk.newAt; (focus (simp; done))) | apply Blk.alloc | apply Blk.setRow | apply Blk.drewN | apply Blk.drew | (refine Blk.setRow_other ?_ ?_ _; focus (first | omega | (simp; omega)))))); (focus exact Try.underlying24); (focus rfl); (focus exact szRoot); (focus (first | exact omega | (first | omega | (simp; done) | (simp; omega) | assumption))); (try go_frame))
        | ((with_reducible apply l_build 42); (focus rfl); (focus exact (built_chk _ _ hrs.out)); (try go_frame))
        | ((with_reducible apply l_store 42); (focus rfl); (focus rfl); (focus (repeat (first | assumption | (apply Blk.newAt; (focus (simp; done))) | apply Blk.alloc | apply Blk.setRow | apply Blk.drewN | apply Blk.drew | (refine Blk.setRow_other ?_ ?_ _; focus (first | omega | (simp; omega)))))); (focus exact szCheck); (focus (first | exact (size_chk hrs.out) | (first | omega | (simp; done) | (simp; omega) | assumption))); (focus (first | omega | (simp; done) | (simp; omega) | assumption)); (focus exact (ones_chk hro.out)); (focus (repeat (first | (apply setRow_eq_at; (focus (simp; done))) | (refine setRow_eq_past ?_ ?_; (focus (first | (simp; done) | omega | (simp; omega)))) | apply setRow_eq_drewN | apply setRow_eq_drew | rfl))); (try go_frame)))
      obtain ⟨c5, hc5⟩ : ∃ c5, c5 = patch c9 1026 (chk ep r) := ⟨_, rfl⟩
      rw [← hc5] at HMK
      rw [← hc5]
      have hs5 : 1957 ≤ c5.size := by rw [hc5, size_patch (by rw [size_chk hrs.out]; omega)]; exact hs9
      obtain ⟨wb, hwb⟩ : ∃ wb : World, wb = wa.setRow w2.heap.size c5 := ⟨_, rfl⟩
      have hMb : Hid (RMid w2 wb g cs c5) := Lib.hid (by rw [hwb]; exact hMa.out.set hgA _)
      rw [← hwb]
      clear hwb hblk hra hc5
      have hfz := hMb.out.blk.frozen
      obtain ⟨u8, hcl8⟩ := hMb.out.blk.hasR (i := 989) (by omega)
      go_wp2_with fail
      go_meet
      refine Lib.hid ?_
      rw [HP.out, ← HMK.out]
      exact hMb.out.cell_ hgA 989 (.bool true)
    · have HP := Lib.hid (show curC c9 (s / 4) all cur = c9 from if_neg hp)
      go_wp2_with fail
      go_meet
      exact Lib.hid (by rw [HP.out]; exact hM12.out)
  case rest =>
  rename World => w15
  have hM15 := hcut
  obtain ⟨c0, hce⟩ : ∃ c, c = curC c9 (s / 4) all cur := ⟨_, rfl⟩
  have Wf0 : Hid (WfC c0) := Lib.hid (by rw [hce]; exact Wf9.out.cur HE.out)
  rw [← hce] at hM15
  have HE_c0 := Lib.hid hce
  clear hce hcut hM12
  have hs0 : 1957 ≤ c0.size := Nat.le_of_eq Wf0.out.size.symm
  have hblk := hM15.out.blk
  have hgz := hM15.out.size
  go_upto_region 19 with (first
    | ((with_reducible apply l_load 40); (focus rfl); (focus (repeat (first | assumption | (apply Blk.newAt; (focus (simp; done))) | apply Blk.alloc | apply Blk.setRow | apply Blk.drewN | apply Blk.drew | (refine Blk.setRow_other ?_ ?_ _; focus (first | omega | (simp; omega)))))); (focus exact Try.underlying40); (focus rfl); (focus exact szBl4); (focus (first | omega | (simp; done) | (simp; omega) | assumption)); (try go_frame))
    | ((with_reducible apply l_alloc 40); (focus kernel_rfl); (try go_frame))
    | ((with_reducible apply l_storew 40); (focus rfl); (focus rfl); (focus (repeat (first | assumption | (apply Blk.newAt; (focus (simp; done))) | apply Blk.alloc | apply Blk.setRow | apply Blk.drewN | apply Blk.drew | (refine Blk.setRow_other ?_ ?_ _; focus (first | omega | (simp; omega)))))); (focus exact szBl4); (focus (first | exact (by simp; omega) | (first | omega | (simp; done) | (simp; omega) | assumption))); (focus (first | omega | (simp; done) | (simp; omega) | assumption)); (focus exact (ones_extract Wf0.out.ones _ _)); (focus (repeat (first | (apply setRow_eq_at; (focus (simp; done))) | (refine setRow_eq_past ?_ ?_; (focus (first | (simp; done) | omega | (simp; omega)))) | apply setRow_eq_drewN | apply setRow_eq_drew | rfl))); (try go_frame)))
  obtain ⟨BV, hBV⟩ : ∃ BV, BV = c0.extract 989 (989 + 4) := ⟨_, rfl⟩
  rw [← hBV]
  have hb0 : BV[0]? = some (.bool (cB c0 989)) := by rw [hBV, Array.getElem?_extract, if_pos (by omega)]; exact Wf0.out.bool 989 rfl
  have hb1 : BV[1]? = some (.bool (cB c0 990)) := by rw [hBV, Array.getElem?_extract, if_pos (by omega)]; exact Wf0.out.bool 990 rfl
  have hb2 : BV[2]? = some (.bool (cB c0 991)) := by rw [hBV, Array.getElem?_extract, if_pos (by omega)]; exact Wf0.out.bool 991 rfl
  have hb3 : BV[3]? = some (.bool (cB c0 992)) := by rw [hBV, Array.getElem?_extract, if_pos (by omega)]; exact Wf0.out.bool 992 rfl
  obtain ⟨w16, hw16⟩ : ∃ x : World, x = w15.alloc (.cells BV 40) := ⟨_, rfl⟩
  have hM : Hid (RMid w2 w16 g cs c0) := Lib.hid (by rw [hw16]; exact hM15.out.alloc hgA _)
  have hKB : Hid (Blk w16 w15.heap.size 40 BV) := Lib.hid (by rw [hw16]; exact Blk.new _ _ _)
  rw [← hw16]
  clear hw16 hBV hblk hM15
  obtain ⟨gb, hgb⟩ : ∃ gb, gb = w15.heap.size := ⟨_, rfl⟩
  rw [← hgb] at hKB hgz
  rw [← hgb]
  clear hgb
  have hE1 : (cs.extract 993 (993 + 33))[0]? = some (.int .u64 (cN cs 993)) := by
    rw [Array.getElem?_extract, if_pos (by omega)]
    exact (H.out.wf.u64 993 rfl).1
  have hE2 : (cs.extract 1026 (1026 + 33))[0]? = some (.int .u64 (cN cs 1026)) := by
    rw [Array.getElem?_extract, if_pos (by omega)]
    exact (H.out.wf.u64 1026 rfl).1
  obtain ⟨v0, v1⟩ := (H.out.wf.u64 993 rfl).2
  obtain ⟨v2, v3⟩ := (H.out.wf.u64 1026 rfl).2
  have v4 : cN cs 993 ≤ s / 4 := by rw [← Hs.out]; exact Rp.out.old
  have v5 : cN cs 1026 ≤ s / 4 := by rw [← Hs.out]; exact Rp.out.just
  have HT : Hid (∀ b m, runTo c0 b (m + 1) = (runTo c0 b m && cB c0 (989 + b + m))) := Lib.hid fun _ _ => rfl
  have HF : Hid (∀ k, finN cu c0 (s / 4) (k + 1) = if runTo c0 (wayB k) (wayE k - wayB k) = true ∧ cN cu (993 + 33 * wayK k) + wayD k = s / 4 then patch (finN cu c0 (s / 4) k) 1059 (oldK cu (wayK k)) else finN cu c0 (s / 4) k) := Lib.hid fun _ => rfl
  have HN1 : Hid (cN cu 993 = cN cs 993) := Lib.hid (cN_eq (HU.out.1 993 (by decide)))
  have HN2 : Hid (cN cu 1026 = cN cs 1026) := Lib.hid (cN_eq (HU.out.1 1026 (by decide)))
  have HO1 : Hid (oldK cu 0 = cs.extract 993 (993 + 33)) := Lib.hid (ext_congr_ (by rw [HU.out.2.1.wf.size, H.out.wf.size]) _ _ fun i h1 h2 => HU.out.1 i (by unfold isSO; omega))
  have HO2 : Hid (oldK cu 1 = cs.extract 1026 (1026 + 33)) := Lib.hid (ext_congr_ (by rw [HU.out.2.1.wf.size, H.out.wf.size]) _ _ fun i h1 h2 => HU.out.1 i (by unfold isSO; omega))
  have hM0 : Hid (RMid w2 w16 g cs (finN cu c0 (s / 4) 0)) := hM
  clear hM
  generalize cN cs 993 = ea at *
  generalize cN cs 1026 = eb at *
  obtain ⟨q0, hq0⟩ : ∃ q, q = cB c0 989 := ⟨_, rfl⟩
  obtain ⟨q1, hq1⟩ : ∃ q, q = cB c0 990 := ⟨_, rfl⟩
  obtain ⟨q2, hq2⟩ : ∃ q, q = cB c0 991 := ⟨_, rfl⟩
  obtain ⟨q3, hq3⟩ : ∃ q, q = cB c0 992 := ⟨_, rfl⟩
  rw [← hq0] at hb0; rw [← hq1] at hb1; rw [← hq2] at hb2; rw [← hq3] at hb3
  have HQ := Lib.hid (And.intro hq0 (And.intro hq1 (And.intro hq2 hq3)))
  clear hq0 hq1 hq2 hq3
  -- way 0
  go_upto_region 19 with fail
  refine way19 hKB.out.cell hb1 hb2 hb3 ((hM0.out.o1.cell 0).trans hE1) (by omega) (by omega) ?_
  intro v98 v99 v100 v101 v102 v103 v104 v105 v106 v107 v108 v109 v110 v111 v112 v113
  dsimp only
  have hTT : Hid (((q1 && q2 && q3 && ((ea + 3 : Int) == s / 4)) = true) ↔ (runTo c0 (wayB 0) (wayE 0 - wayB 0) = true ∧ cN cu (993 + 33 * wayK 0) + wayD 0 = s / 4)) := Lib.hid (by
    show _ ↔ (runTo c0 1 3 = true ∧ cN cu 993 + (3 : Int) = s / 4)
    rw [HN1.out]
    simp only [runTo, Bool.true_and, Nat.reduceAdd, Nat.add_zero, ← HQ.out.2.1, ← HQ.out.2.2.1, ← HQ.out.2.2.2, Bool.and_eq_true, beq_iff_eq, and_assoc])
  obtain ⟨t, ht⟩ : ∃ t : Bool, t = (q1 && q2 && q3 && ((ea + 3 : Int) == s / 4)) := ⟨_, rfl⟩
  rw [← ht] at hTT
  rw [← ht]
  clear ht
  have hgM := hM0.out.size
  go_upto_if 114 with fail
  go_cut [] (fun wq => Hid (RMid w2 wq g cs (finN cu c0 (s / 4) 1)) ∧ Hid (Blk wq gb 40 BV))
  case first =>
    cases t
    · have HC : Hid (finN cu c0 (s / 4) 1 = finN cu c0 (s / 4) 0) := Lib.hid (by rw [HF.out 0, if_neg (fun h => by have := hTT.out.2 h; cases this)])
      go_wp2_with fail
      go_meet
      exact ⟨Lib.hid (by rw [HC.out]; exact hM0.out), hKB⟩
    · have HC : Hid (finN cu c0 (s / 4) 1 = patch (finN cu c0 (s / 4) 0) 1059 (cs.extract 993 (993 + 33))) := Lib.hid (by rw [HF.out 0, if_pos (hTT.out.1 rfl)]; exact congrArg _ HO1.out)
      have hwf := HU.out.2.1.wf.fin Wf0.out (s / 4) 0
      have hsf1 : 1957 ≤ (finN cu c0 (s / 4) 0).size := Nat.le_of_eq hwf.size.symm
      have hblk := hM0.out.blk
      have hob := hM0.out.o1
      have hMs := Lib.hid (hM0.out.set hgA (patch (finN cu c0 (s / 4) 0) 1059 (cs.extract 993 (993 + 33))))
      have hKs := Lib.hid (hKB.out.setRow_other (k := w2.heap.size) (by omega) (patch (finN cu c0 (s / 4) 0) 1059 (cs.extract 993 (993 + 33))))
      clear hwf
      generalize finN cu c0 (s / 4) 0 = cf at *
      go_wp2_with (first
        | ((with_reducible apply l_loadw 42); (focus rfl); (focus (repeat (first | assumption | (apply Blk.newAt; (focus (simp; done))) | apply Blk.alloc | apply Blk.setRow | apply Blk.drewN | apply Blk.drew | (refine Blk.setRow_other ?_ ?_ _; focus (first | omega | (simp; omega)))))); (focus exact Try.underlying42); (focus rfl); (focus exact szCheck); (focus (first | exact (by simp; omega) | (first | omega | (simp; done) | (simp; omega) | assumption))); (try go_frame))
        | ((with_reducible apply l_store 42); (focus rfl); (focus rfl); (focus (repeat (first | assumption | (apply Blk.newAt; (focus (simp; done))) | apply Blk.alloc | apply Blk.setRow | apply Blk.drewN | apply Blk.drew | (refine Blk.setRow_other ?_ ?_ _; focus (first | omega | (simp; omega)))))); (focus exact szCheck); (focus (first | exact (by simp; omega) | (first | omega | (simp; done) | (simp; omega) | assumption))); (focus (first | omega | (simp; done) | (simp; omega) | assumption)); (focus exact (ones_extract Hone.out _ _)); (focus (repeat (first | (apply setRow_eq_at; (focus (simp; done))) | (refine setRow_eq_past ?_ ?_; (focus (first | (simp; done) | omega | (simp; omega)))) | apply setRow_eq_drewN | apply setRow_eq_drew | rfl))); (try go_frame)))
      go_meet
      exact ⟨Lib.hid (by rw [HC.out]; exact hMs.out), hKs⟩
  case rest =>
  rename World => wf1
  obtain ⟨hM1, hKB2⟩ := hcut
  clear hKB hTT hgM
  have hKB := hKB2
  clear hKB2
  -- way 1
  go_upto_region 21 with fail
  refine way21 hKB.out.cell hb1 hb2 ((hM1.out.o1.cell 0).trans hE1) (by omega) (by omega) ?_
  intro v117 v118 v119 v120 v121 v122 v123 v124 v125 v126 v127 v128
  dsimp only
  have hTT : Hid (((q1 && q2 && ((ea + 2 : Int) == s / 4)) = true) ↔ (runTo c0 (wayB 1) (wayE 1 - wayB 1) = true ∧ cN cu (993 + 33 * wayK 1) + wayD 1 = s / 4)) := Lib.hid (by
    show _ ↔ (runTo c0 1 2 = true ∧ cN cu 993 + (2 : Int) = s / 4)
    rw [HN1.out]
    simp only [runTo, Bool.true_and, Nat.reduceAdd, Nat.add_zero, ← HQ.out.2.1, ← HQ.out.2.2.1, Bool.and_eq_true, beq_iff_eq, and_assoc])
  obtain ⟨t, ht⟩ : ∃ t : Bool, t = (q1 && q2 && ((ea + 2 : Int) == s / 4)) := ⟨_, rfl⟩
  rw [← ht] at hTT
  rw [← ht]
  clear ht
  have hgM := hM1.out.size
  go_upto_if 129 with fail
  go_cut [] (fun wq => Hid (RMid w2 wq g cs (finN cu c0 (s / 4) 2)) ∧ Hid (Blk wq gb 40 BV))
  case first =>
    cases t
    · have HC : Hid (finN cu c0 (s / 4) 2 = finN cu c0 (s / 4) 1) := Lib.hid (by rw [HF.out 1, if_neg (fun h => by have := hTT.out.2 h; cases this)])
      go_wp2_with fail
      go_meet
      exact ⟨Lib.hid (by rw [HC.out]; exact hM1.out), hKB⟩
    · have HC : Hid (finN cu c0 (s / 4) 2 = patch (finN cu c0 (s / 4) 1) 1059 (cs.extract 993 (993 + 33))) := Lib.hid (by rw [HF.out 1, if_pos (hTT.out.1 rfl)]; exact congrArg _ HO1.out)
      have hwf := HU.out.2.1.wf.fin Wf0.out (s / 4) 1
      have hsf1 : 1957 ≤ (finN cu c0 (s / 4) 1).size := Nat.le_of_eq hwf.size.symm
      have hblk := hM1.out.blk
      have hob := hM1.out.o1
      have hMs := Lib.hid (hM1.out.set hgA (patch (finN cu c0 (s / 4) 1) 1059 (cs.extract 993 (993 + 33))))
      have hKs := Lib.hid (hKB.out.setRow_other (k := w2.heap.size) (by omega) (patch (finN cu c0 (s / 4) 1) 1059 (cs.extract 993 (993 + 33))))
      clear hwf
      generalize finN cu c0 (s / 4) 1 = cf at *
      go_wp2_with (first
        | ((with_reducible apply l_loadw 42); (focus rfl); (focus (repeat (first | assumption | (apply Blk.newAt; (focus (simp; done))) | apply Blk.alloc | apply Blk.setRow | apply Blk.drewN | apply Blk.drew | (refine Blk.setRow_other ?_ ?_ _; focus (first | omega | (simp; omega)))))); (focus exact Try.underlying42); (focus rfl); (focus exact szCheck); (focus (first | exact (by simp; omega) | (first | omega | (simp; done) | (simp; omega) | assumption))); (try go_frame))
        | ((with_reducible apply l_store 42); (focus rfl); (focus rfl); (focus (repeat (first | assumption | (apply Blk.newAt; (focus (simp; done))) | apply Blk.alloc | apply Blk.setRow | apply Blk.drewN | apply Blk.drew | (refine Blk.setRow_other ?_ ?_ _; focus (first | omega | (simp; omega)))))); (focus exact szCheck); (focus (first | exact (by simp; omega) | (first | omega | (simp; done) | (simp; omega) | assumption))); (focus (first | omega | (simp; done) | (simp; omega) | assumption)); (focus exact (ones_extract Hone.out _ _)); (focus (repeat (first | (apply setRow_eq_at; (focus (simp; done))) | (refine setRow_eq_past ?_ ?_; (focus (first | (simp; done) | omega | (simp; omega)))) | apply setRow_eq_drewN | apply setRow_eq_drew | rfl))); (try go_frame)))
      go_meet
      exact ⟨Lib.hid (by rw [HC.out]; exact hMs.out), hKs⟩
  case rest =>
  rename World => wf2
  obtain ⟨hM2, hKB2⟩ := hcut
  clear hKB hTT hgM
  have hKB := hKB2
  clear hKB2
  -- way 2
  go_upto_region 23 with fail
  refine way23 hKB.out.cell hb0 hb1 hb2 ((hM2.out.o2.cell 0).trans hE2) (by omega) (by omega) ?_
  intro v132 v133 v134 v135 v136 v137 v138 v139 v140 v141 v142 v143 v144 v145 v146 v147
  dsimp only
  have hTT : Hid (((q0 && q1 && q2 && ((eb + 2 : Int) == s / 4)) = true) ↔ (runTo c0 (wayB 2) (wayE 2 - wayB 2) = true ∧ cN cu (993 + 33 * wayK 2) + wayD 2 = s / 4)) := Lib.hid (by
    show _ ↔ (runTo c0 0 3 = true ∧ cN cu 1026 + (2 : Int) = s / 4)
    rw [HN2.out]
    simp only [runTo, Bool.true_and, Nat.reduceAdd, Nat.add_zero, ← HQ.out.1, ← HQ.out.2.1, ← HQ.out.2.2.1, Bool.and_eq_true, beq_iff_eq, and_assoc])
  obtain ⟨t, ht⟩ : ∃ t : Bool, t = (q0 && q1 && q2 && ((eb + 2 : Int) == s / 4)) := ⟨_, rfl⟩
  rw [← ht] at hTT
  rw [← ht]
  clear ht
  have hgM := hM2.out.size
  go_upto_if 148 with fail
  go_cut [] (fun wq => Hid (RMid w2 wq g cs (finN cu c0 (s / 4) 3)) ∧ Hid (Blk wq gb 40 BV))
  case first =>
    cases t
    · have HC : Hid (finN cu c0 (s / 4) 3 = finN cu c0 (s / 4) 2) := Lib.hid (by rw [HF.out 2, if_neg (fun h => by have := hTT.out.2 h; cases this)])
      go_wp2_with fail
      go_meet
      exact ⟨Lib.hid (by rw [HC.out]; exact hM2.out), hKB⟩
    · have HC : Hid (finN cu c0 (s / 4) 3 = patch (finN cu c0 (s / 4) 2) 1059 (cs.extract 1026 (1026 + 33))) := Lib.hid (by rw [HF.out 2, if_pos (hTT.out.1 rfl)]; exact congrArg _ HO2.out)
      have hwf := HU.out.2.1.wf.fin Wf0.out (s / 4) 2
      have hsf1 : 1957 ≤ (finN cu c0 (s / 4) 2).size := Nat.le_of_eq hwf.size.symm
      have hblk := hM2.out.blk
      have hob := hM2.out.o2
      have hMs := Lib.hid (hM2.out.set hgA (patch (finN cu c0 (s / 4) 2) 1059 (cs.extract 1026 (1026 + 33))))
      have hKs := Lib.hid (hKB.out.setRow_other (k := w2.heap.size) (by omega) (patch (finN cu c0 (s / 4) 2) 1059 (cs.extract 1026 (1026 + 33))))
      clear hwf
      generalize finN cu c0 (s / 4) 2 = cf at *
      go_wp2_with (first
        | ((with_reducible apply l_loadw 42); (focus rfl); (focus (repeat (first | assumption | (apply Blk.newAt; (focus (simp; done))) | apply Blk.alloc | apply Blk.setRow | apply Blk.drewN | apply Blk.drew | (refine Blk.setRow_other ?_ ?_ _; focus (first | omega | (simp; omega)))))); (focus exact Try.underlying42); (focus rfl); (focus exact szCheck); (focus (first | exact (by simp; omega) | (first | omega | (simp; done) | (simp; omega) | assumption))); (try go_frame))
        | ((with_reducible apply l_store 42); (focus rfl); (focus rfl); (focus (repeat (first | assumption | (apply Blk.newAt; (focus (simp; done))) | apply Blk.alloc | apply Blk.setRow | apply Blk.drewN | apply Blk.drew | (refine Blk.setRow_other ?_ ?_ _; focus (first | omega | (simp; omega)))))); (focus exact szCheck); (focus (first | exact (by simp; omega) | (first | omega | (simp; done) | (simp; omega) | assumption))); (focus (first | omega | (simp; done) | (simp; omega) | assumption)); (focus exact (ones_extract Hone.out _ _)); (focus (repeat (first | (apply setRow_eq_at; (focus (simp; done))) | (refine setRow_eq_past ?_ ?_; (focus (first | (simp; done) | omega | (simp; omega)))) | apply setRow_eq_drewN | apply setRow_eq_drew | rfl))); (try go_frame)))
      go_meet
      exact ⟨Lib.hid (by rw [HC.out]; exact hMs.out), hKs⟩
  case rest =>
  rename World => wf3
  obtain ⟨hM3, hKB2⟩ := hcut
  clear hKB hTT hgM
  have hKB := hKB2
  clear hKB2
  -- way 3
  go_upto_region 25 with fail
  refine way25 hKB.out.cell hb0 hb1 ((hM3.out.o2.cell 0).trans hE2) (by omega) (by omega) ?_
  intro v151 v152 v153 v154 v155 v156 v157 v158 v159 v160 v161 v162
  dsimp only
  have hTT : Hid (((q0 && q1 && ((eb + 1 : Int) == s / 4)) = true) ↔ (runTo c0 (wayB 3) (wayE 3 - wayB 3) = true ∧ cN cu (993 + 33 * wayK 3) + wayD 3 = s / 4)) := Lib.hid (by
    show _ ↔ (runTo c0 0 2 = true ∧ cN cu 1026 + (1 : Int) = s / 4)
    rw [HN2.out]
    simp only [runTo, Bool.true_and, Nat.reduceAdd, Nat.add_zero, ← HQ.out.1, ← HQ.out.2.1, Bool.and_eq_true, beq_iff_eq, and_assoc])
  obtain ⟨t, ht⟩ : ∃ t : Bool, t = (q0 && q1 && ((eb + 1 : Int) == s / 4)) := ⟨_, rfl⟩
  rw [← ht] at hTT
  rw [← ht]
  clear ht
  have hgM := hM3.out.size
  go_upto_if 163 with fail
  go_cut [] (fun wq => Hid (RMid w2 wq g cs (finN cu c0 (s / 4) 4)) ∧ Hid (Blk wq gb 40 BV))
  case first =>
    cases t
    · have HC : Hid (finN cu c0 (s / 4) 4 = finN cu c0 (s / 4) 3) := Lib.hid (by rw [HF.out 3, if_neg (fun h => by have := hTT.out.2 h; cases this)])
      go_wp2_with fail
      go_meet
      exact ⟨Lib.hid (by rw [HC.out]; exact hM3.out), hKB⟩
    · have HC : Hid (finN cu c0 (s / 4) 4 = patch (finN cu c0 (s / 4) 3) 1059 (cs.extract 1026 (1026 + 33))) := Lib.hid (by rw [HF.out 3, if_pos (hTT.out.1 rfl)]; exact congrArg _ HO2.out)
      have hwf := HU.out.2.1.wf.fin Wf0.out (s / 4) 3
      have hsf1 : 1957 ≤ (finN cu c0 (s / 4) 3).size := Nat.le_of_eq hwf.size.symm
      have hblk := hM3.out.blk
      have hob := hM3.out.o2
      have hMs := Lib.hid (hM3.out.set hgA (patch (finN cu c0 (s / 4) 3) 1059 (cs.extract 1026 (1026 + 33))))
      have hKs := Lib.hid (hKB.out.setRow_other (k := w2.heap.size) (by omega) (patch (finN cu c0 (s / 4) 3) 1059 (cs.extract 1026 (1026 + 33))))
      clear hwf
      generalize finN cu c0 (s / 4) 3 = cf at *
      go_wp2_with (first
        | ((with_reducible apply l_loadw 42); (focus rfl); (focus (repeat (first | assumption | (apply Blk.newAt; (focus (simp; done))) | apply Blk.alloc | apply Blk.setRow | apply Blk.drewN | apply Blk.drew | (refine Blk.setRow_other ?_ ?_ _; focus (first | omega | (simp; omega)))))); (focus exact Try.underlying42); (focus rfl); (focus exact szCheck); (focus (first | exact (by simp; omega) | (first | omega | (simp; done) | (simp; omega) | assumption))); (try go_frame))
        | ((with_reducible apply l_store 42); (focus rfl); (focus rfl); (focus (repeat (first | assumption | (apply Blk.newAt; (focus (simp; done))) | apply Blk.alloc | apply Blk.setRow | apply Blk.drewN | apply Blk.drew | (refine Blk.setRow_other ?_ ?_ _; focus (first | omega | (simp; omega)))))); (focus exact szCheck); (focus (first | exact (by simp; omega) | (first | omega | (simp; done) | (simp; omega) | assumption))); (focus (first | omega | (simp; done) | (simp; omega) | assumption)); (focus exact (ones_extract Hone.out _ _)); (focus (repeat (first | (apply setRow_eq_at; (focus (simp; done))) | (refine setRow_eq_past ?_ ?_; (focus (first | (simp; done) | omega | (simp; omega)))) | apply setRow_eq_drewN | apply setRow_eq_drew | rfl))); (try go_frame)))
      go_meet
      exact ⟨Lib.hid (by rw [HC.out]; exact hMs.out), hKs⟩
  case rest =>
  rename World => wf4
  obtain ⟨hM4, hKB2⟩ := hcut
  clear hKB hTT hgM
  have hKB := hKB2
  clear hKB2
  have HEq : Hid (finN cu c0 (s / 4) 4 = weighC cu all prev cur) := Lib.hid (by
    have e : cN cu 33 = s := by rw [← Hs.out]; exact cN_eq (HU.out.1 33 (by decide))
    rw [HE_c0.out, HE_c9.out, C6.out]
    unfold weighC
    rw [e])
  have WfF : Hid (WfC (finN cu c0 (s / 4) 4)) := Lib.hid (HU.out.2.1.wf.fin Wf0.out (s / 4) 4)
  generalize finN cu c0 (s / 4) 4 = cF at *
  have hs1 : 1957 ≤ cF.size := Nat.le_of_eq WfF.out.size.symm
  have hs2 : cF.size ≤ 1957 := Nat.le_of_eq WfF.out.size
  have hbF := hM4.out.blk
  have hzF := HX.out.2.1.below hM4.out.fr (by omega)
  go_wp2_with (first | ((with_reducible apply l_loadw 49); (focus rfl); (focus (repeat (first | assumption | (apply Blk.newAt; (focus (simp; done))) | apply Blk.alloc | apply Blk.setRow | apply Blk.drewN | apply Blk.drew | (refine Blk.setRow_other ?_ ?_ _; focus (first | omega | (simp; omega)))))); (focus exact Try.underlying49); (focus rfl); (focus exact szState); (focus (first | exact omega | (first | omega | (simp; done) | (simp; omega) | assumption))); (try go_frame)) | ((with_reducible apply l_storew 49); (focus rfl); (focus rfl); (focus (repeat (first | assumption | (apply Blk.newAt; (focus (simp; done))) | apply Blk.alloc | apply Blk.setRow | apply Blk.drewN | apply Blk.drew | (refine Blk.setRow_other ?_ ?_ _; focus (first | omega | (simp; omega)))))); (focus exact szState); (focus (first | exact omega | (first | omega | (simp; done) | (simp; omega) | assumption))); (focus (first | omega | (simp; done) | (simp; omega) | assumption)); (focus exact WfF.out.ones); (focus (repeat (first | (apply setRow_eq_at; (focus (simp; done))) | (refine setRow_eq_past ?_ ?_; (focus (first | (simp; done) | omega | (simp; omega)))) | apply setRow_eq_drewN | apply setRow_eq_drew | rfl))); (try go_frame)))
  ((with_reducible apply l_ret2); (focus rfl); (focus rfl); (focus rfl); (focus (repeat (first | assumption | (apply Blk.newAt; (focus (simp; done))) | apply Blk.alloc | apply Blk.setRow | apply Blk.drewN | apply Blk.drew | (refine Blk.setRow_other ?_ ?_ _; focus (first | omega | (simp; omega)))))); (focus exact Try.underlying49); (focus rfl); (focus exact szState); (focus (first | exact omega | (first | omega | (simp; done) | (simp; omega) | assumption))); (focus rfl))
  have hfr : ∀ b, w1.heap.size ≤ b → b < w2.heap.size → (wf4.setRow (w.heap.size + 1) cF).heap[b]? = w2.heap[b]? := fun b hb1 hb2 => (setRow_other _ _ _ _ (by omega)).trans (hM4.out.fr.block b hb2)
  have ho := HU.out.2.2.keep hfr
  exact ⟨cu, by rw [HEq.out]; rfl, HU.out.1, ho.isSt HU.out.2.1.wf HU.out.2.1, ho.base (by omega), below_setRow (HX.out.2.2.trans (hM4.out.fr.mono (by omega))) (by omega) _⟩
end Go.Proofs.Ytikbkcidalippaa
