/-
  The state's encoding: what it is, part by part. Plain.
-/
import Derived.Test.YtikbkcidalippaaEncCom
import Derived.Test.YtikbkcidalippaaVec
namespace Go.Proofs.Ytikbkcidalippaa
open Go.RowKit
attribute [local irreducible] Hid Blk
set_option maxRecDepth 100000

def numsTo (l : List Value) : Nat → List Value
  | 0 => []
  | k + 1 => numsTo l k ++ num8 (lN l k)
def slashTo (cs : Array Value) : Nat → List Value
  | 0 => []
  | k + 1 => slashTo cs k ++ num8 (cN cs (979 + k))
def votesTo (l : List Value) : Nat → List Value
  | 0 => []
  | k + 1 => votesTo l k ++ encEth1 ((l.drop (k * 65)).take 65).toArray (lN l (k * 65 + 32))
def valsTo (l : List Value) : Nat → List Value
  | 0 => []
  | k + 1 => valsTo l k ++ encVal ((l.drop (k * 86)).take 86).toArray (lN l (k * 86 + 80)) (lN l (k * 86 + 82)) (lN l (k * 86 + 83)) (lN l (k * 86 + 84)) (lN l (k * 86 + 85)) (lB l (k * 86 + 81))

/-- The parts of a state's encoding. -/
def encP (cs : Array Value) (L : Nat → List Value) : Nat → List Value
  | 0 => num8 (cN cs 0)
  | 1 => (cs.extract 1 (1 + 32)).toList
  | 2 => num8 (cN cs 33)
  | 3 => encFork (cs.extract 34 (34 + 9)) (cN cs 42)
  | 4 => encHead (cs.extract 43 (43 + 98)) (cN cs 43) (cN cs 44)
  | 5 => (cs.extract 141 (141 + 256)).toList
  | 6 => (cs.extract 397 (397 + 256)).toList
  | 7 => L 653
  | 8 => encEth1 (cs.extract 654 (654 + 65)) (cN cs 686)
  | 9 => votesTo (L 719) (cnt L 719)
  | 10 => num8 (cN cs 720)
  | 11 => valsTo (L 721) (cnt L 721)
  | 12 => numsTo (L 722) (cnt L 722)
  | 13 => (cs.extract 723 (723 + 256)).toList
  | 14 => slashTo cs 8
  | 15 => L 987
  | 16 => L 988
  | 17 => vec4 fun i => cB cs (989 + i)
  | 18 => encChk (cs.extract 993 (993 + 33)) (cN cs 993)
  | 19 => encChk (cs.extract 1026 (1026 + 33)) (cN cs 1026)
  | 20 => encChk (cs.extract 1059 (1059 + 33)) (cN cs 1059)
  | 21 => numsTo (L 1092) (cnt L 1092)
  | 22 => (cs.extract 1093 (1093 + 432)).toList
  | 23 => (cs.extract 1525 (1525 + 432)).toList
  | _ => []
def szS : List Nat := [8, 32, 8, 16, 112, 256, 256, 0, 72, 0, 8, 0, 0, 256, 64, 0, 0, 1, 40, 40, 40, 0, 432, 432]
/-- A state's encoding. -/
def encB (cs : Array Value) (L : Nat → List Value) : List Value := layB (encP cs L) (fun j => szS.getD j 0) 24

theorem layR_congr {P P' : Nat → List Value} {S S' : Nat → Nat} : ∀ n, (∀ j, j < n → P j = P' j ∧ S j = S' j) → layR P S n = layR P' S' n
  | 0, _ => rfl
  | n + 1, h => by
    obtain ⟨h1, h2⟩ := h n (by omega)
    simp only [layR, h1, h2, layR_congr n fun j hj => h j (by omega)]
theorem headTo_congr {S S' : Nat → Nat} : ∀ n, (∀ j, j < n → S j = S' j) → headTo S n = headTo S' n
  | 0, _ => rfl
  | n + 1, h => by simp only [headTo, h n (by omega), headTo_congr n fun j hj => h j (by omega)]
theorem layO_congr {h : Nat} {P P' : Nat → List Value} {S S' : Nat → Nat} : ∀ n, (∀ j, j < n → P j = P' j ∧ S j = S' j) → layO h P S n = layO h P' S' n
  | 0, _ => rfl
  | n + 1, hh => by
    obtain ⟨h1, h2⟩ := hh n (by omega)
    simp only [layO, h1, h2, layO_congr n fun j hj => hh j (by omega), layR_congr n fun j hj => hh j (by omega)]
theorem layB_congr {P P' : Nat → List Value} {S S' : Nat → Nat} {n : Nat} (h : ∀ j, j < n → P j = P' j ∧ S j = S' j) : layB P S n = layB P' S' n := by
  unfold layB
  rw [headTo_congr n fun j hj => (h j hj).2, layO_congr n h, layR_congr n h]
/-- The rows' encoding is the parts'. -/
theorem ly_encB {cs : Array Value} {L : Nat → List Value} {R : List Pt} (hs : R.map Pt.s = szS) (hx : ∀ j, j < 24 → (R[j]?.map Pt.X) = some (encP cs L j)) : ly R = encB cs L := by
  have hl : R.length = 24 := by
    have := congrArg List.length hs
    rw [List.length_map] at this
    exact this
  unfold ly encB
  rw [hl]
  refine layB_congr fun j hj => ⟨by rw [hx j hj]; rfl, ?_⟩
  rw [← hs, List.getD_eq_getElem?_getD, List.getElem?_map]

theorem fit_below {w w' : World} {p : Pt} (h : p.fit w) (hb : Below w.heap.size w w') : p.fit w' :=
  ⟨(h.1.below hb).more hb.size, h.2⟩
theorem fits_snoc {w w' : World} {R : List Pt} {p : Pt} (h : ∀ q ∈ R, q.fit w) (hb : Below w.heap.size w w') (hp : p.fit w') : ∀ q ∈ R ++ [p], q.fit w' := by
  intro q hq
  rcases List.mem_append.1 hq with hq | hq
  · exact fit_below (h q hq) hb
  · obtain rfl := List.mem_singleton.1 hq; exact hp
theorem ext_get {cs : Array Value} {o n i : Nat} (hi : i < n) (h : o + n ≤ cs.size) : (cs.extract o (o + n))[i]? = cs[o + i]? := by
  rw [Array.getElem?_extract]
  rw [if_pos (by omega)]
theorem ones_app {a b : List Value} (h1 : ∀ u ∈ a, u.oneCell' = true) (h2 : ∀ u ∈ b, u.oneCell' = true) : ∀ u ∈ a ++ b, u.oneCell' = true := by
  intro u hu
  rcases List.mem_append.1 hu with hu | hu
  · exact h1 u hu
  · exact h2 u hu
theorem encChk_ones {cs : Array Value} (h : cs.all (·.oneCell') = true) (x0 : Int) : ∀ u ∈ encChk cs x0, u.oneCell' = true := by
  unfold encChk
  repeat (first | exact ext_ones h _ _ | exact num8_ones _ | exact flag1_ones _ | apply ones_app)
theorem encFork_ones {cs : Array Value} (h : cs.all (·.oneCell') = true) (x2 : Int) : ∀ u ∈ encFork cs x2, u.oneCell' = true := by
  unfold encFork
  repeat (first | exact ext_ones h _ _ | exact num8_ones _ | exact flag1_ones _ | apply ones_app)
theorem encHead_ones {cs : Array Value} (h : cs.all (·.oneCell') = true) (x0 x1 : Int) : ∀ u ∈ encHead cs x0 x1, u.oneCell' = true := by
  unfold encHead
  repeat (first | exact ext_ones h _ _ | exact num8_ones _ | exact flag1_ones _ | apply ones_app)
theorem encEth1_ones {cs : Array Value} (h : cs.all (·.oneCell') = true) (x1 : Int) : ∀ u ∈ encEth1 cs x1, u.oneCell' = true := by
  unfold encEth1
  repeat (first | exact ext_ones h _ _ | exact num8_ones _ | exact flag1_ones _ | apply ones_app)
theorem encVal_ones {cs : Array Value} (h : cs.all (·.oneCell') = true) (a b c d e : Int) (f : Bool) : ∀ u ∈ encVal cs a b c d e f, u.oneCell' = true := by
  unfold encVal
  repeat (first | exact ext_ones h _ _ | exact num8_ones _ | exact flag1_ones _ | apply ones_app)
theorem vec4_ones (b : Nat → Bool) : ∀ u ∈ vec4 b, u.oneCell' = true := by
  intro u hu
  simp only [vec4, List.mem_cons, List.not_mem_nil, or_false] at hu
  subst hu; rfl
theorem SlR.sub {w : World} {B size bytes n c k : Nat} {a : Option Addr} {xs : List Value} (h : SlR w B size bytes a n c xs) (hk : k < n) (hs : size ≤ 1000) :
    ∃ b o, a = some ⟨b, o, none⟩ ∧ b < B ∧ SlR w B 1 1 (some ⟨b, o + k * size, none⟩) size size ((xs.drop (k * size)).take size) := by
  obtain ⟨b, o, e, hb, hr, hl⟩ := h.range hk
  exact ⟨b, o, e, hb, ⟨by omega, Nat.le_refl _, by omega, by omega, (fun h => nomatch h), fun _ => ⟨b, o + k * size, rfl, hb, fun j u hu => hr j u hu⟩⟩⟩
theorem el_ones {w : World} {B : Nat} {cs : Array Value} {L : Nat → List Value} (h : IsSt w B cs L) (k : Nat) (hk : isSO k) : ∀ u ∈ L k, u.oneCell' = true := by
  intro u hu
  obtain ⟨j, hj, e⟩ := List.mem_iff_getElem.1 hu
  exact CK.ok_one (h.el k hk j u (by rw [List.getElem?_eq_getElem hj, e]))
theorem sub_ones {l : List Value} (h : ∀ u ∈ l, u.oneCell' = true) (i n : Nat) : ∀ u ∈ (l.drop i).take n, u.oneCell' = true :=
  fun u hu => h u (List.mem_of_mem_drop (List.mem_of_mem_take hu))
theorem take_snoc {l : List Value} (i n : Nat) : l.take i ++ (l.drop i).take n = l.take (i + n) := by
  rw [List.take_add]
theorem chunk_get {l : List Value} {i n j : Nat} (hj : j < n) : ((l.drop i).take n).toArray[j]? = l[i + j]? := by
  simp [hj, List.getElem?_drop]
theorem chunk_u64 {w : World} {B : Nat} {cs : Array Value} {L : Nat → List Value} (h : IsSt w B cs L) (k : Nat) (hk : isSO k) (i n j : Nat) (hj : j < n) (he : ek k (i + j) = .u64) (hl : i + j < (L k).length) :
    (((L k).drop i).take n).toArray[j]? = some (.int .u64 (lN (L k) (i + j))) ∧ W64 (lN (L k) (i + j)) := by
  have hv := h.el k hk (i + j) _ (List.getElem?_eq_getElem hl)
  rw [he] at hv
  obtain ⟨m, hm, hw⟩ := CK.ok_u64 hv
  have e : (L k)[i + j]? = some (.int .u64 m) := by rw [List.getElem?_eq_getElem hl, hm]
  have e2 : lN (L k) (i + j) = m := by unfold lN; rw [e]; rfl
  rw [chunk_get hj, e2]
  exact ⟨e, hw⟩
theorem chunk_bool {w : World} {B : Nat} {cs : Array Value} {L : Nat → List Value} (h : IsSt w B cs L) (k : Nat) (hk : isSO k) (i n j : Nat) (hj : j < n) (he : ek k (i + j) = .bool) (hl : i + j < (L k).length) :
    (((L k).drop i).take n).toArray[j]? = some (.bool (lB (L k) (i + j))) := by
  have hv := h.el k hk (i + j) _ (List.getElem?_eq_getElem hl)
  rw [he] at hv
  obtain ⟨m, hm⟩ := CK.ok_bool hv
  have e : (L k)[i + j]? = some (.bool m) := by rw [List.getElem?_eq_getElem hl, hm]
  have e2 : lB (L k) (i + j) = m := by unfold lB; rw [e]; rfl
  rw [chunk_get hj, e2]
  exact e
theorem votesTo_ones {l : List Value} (h : ∀ u ∈ l, u.oneCell' = true) : ∀ n, ∀ u ∈ votesTo l n, u.oneCell' = true
  | 0 => fun _ h => nomatch h
  | n + 1 => ones_app (votesTo_ones h n) (encEth1_ones (all_oneCell_toArray (sub_ones h _ _)) _)
theorem valsTo_ones {l : List Value} (h : ∀ u ∈ l, u.oneCell' = true) : ∀ n, ∀ u ∈ valsTo l n, u.oneCell' = true
  | 0 => fun _ h => nomatch h
  | n + 1 => ones_app (valsTo_ones h n) (encVal_ones (all_oneCell_toArray (sub_ones h _ _)) _ _ _ _ _ _)
theorem numsTo_ones {l : List Value} : ∀ n, ∀ u ∈ numsTo l n, u.oneCell' = true
  | 0 => fun _ h => nomatch h
  | n + 1 => ones_app (numsTo_ones n) (num8_ones _)
theorem slashTo_ones {cs : Array Value} : ∀ n, ∀ u ∈ slashTo cs n, u.oneCell' = true
  | 0 => fun _ h => nomatch h
  | n + 1 => ones_app (slashTo_ones n) (num8_ones _)
theorem ones_sing (n : Int) : ∀ u ∈ [Value.int .u8 n], u.oneCell' = true := by
  intro u hu
  obtain rfl := List.mem_singleton.1 hu
  rfl
theorem take_one {l : List Value} {k : Nat} {v : Value} (h : l[k]? = some v) : l.take (k + 1) = l.take k ++ [v] := by
  obtain ⟨hk, e⟩ := List.getElem?_eq_some_iff.1 h
  rw [List.take_succ_eq_append_getElem hk, e]
/-- The counts are within their bounds. -/
def CntOK (L : Nat → List Value) : Prop := cnt L 721 ≤ 65536 ∧ cnt L 722 ≤ 65536 ∧ cnt L 987 ≤ 65536 ∧ cnt L 988 ≤ 65536 ∧ cnt L 1092 ≤ 65536 ∧ cnt L 653 ≤ 1024 ∧ cnt L 719 ≤ 8
/-- What the encoder answers. -/
def EncPost (w : World) (cs : Array Value) (L : Nat → List Value) (e : Ending) (w' : World) : Prop :=
  (CntOK L ∧ ∃ v, e = .returned (.tuple #[v, .int .i64 0]) ∧ w'.ownsRow w.heap.size 5 1 v (encB cs L).length (encB cs L) ∧ Below w.heap.size w w') ∨
  (¬ CntOK L ∧ e = .returned (.tuple #[.slice none 0 0, .int .i64 6]) ∧ Below w.heap.size w w')
end Go.Proofs.Ytikbkcidalippaa
