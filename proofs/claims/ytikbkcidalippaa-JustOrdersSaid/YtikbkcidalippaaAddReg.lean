/-
  just.Justify's three regions that add to a sum: each walked once.
-/
import Derived.Test.YtikbkcidalippaaRWeigh
import Derived.StillTailTactics
namespace Go.Proofs.Ytikbkcidalippaa
open Go.RowKit
attribute [local irreducible] Hid Blk
set_option maxRecDepth 100000

set_option maxHeartbeats 4000000 in
theorem add12 {K : Act → World → Prop} {Q : Exit → Act → World → Prop} {w : World} {gs pb po : Nat} {S e : Int} {u0 u1 u2 u3 u4 u6 u8 u9 u10 u11 u12 u13 u14 u15 u16 u17 u18 u19 u20 u21 u22 u23 u24 u25 u26 u27 u28 u29 u30 u31 u32 u33 u34 u35 u36 u37 u38 u39 u40 u41 u42 u43 u44 u45 u46 u47 u48 u49 u50 u51 u52 u53 u54 u55 u56 u57 u58 u59 u60 u61 u62 u63 u64 u65 u66 u67 u68 u69 u70 u71 u72 u73 u74 u75 u76 u77 u78 u79 u80 u81 u82 u83 u84 u85 u86 u87 u88 u89 u90 u91 u92 u93 u94 u95 u96 u97 u98 u99 u100 u101 u102 u103 u104 u105 u106 u107 u108 u109 u110 u111 u112 : Value}
    (hs : w.cell? ⟨gs, 0, none⟩ = some (.int .u64 S)) (hfz : w.frozen? ⟨gs, 0, none⟩ = false) (hp : w.cell? ⟨pb, po + 80, none⟩ = some (.int .u64 e)) (hw : IntKind.u64.wrap (S + e) = S + e)
    (hK : ∀ v40 v41 v42 v43 v44 v45 v46 v47 : Value, K ⟨#[u0, u1, u2, u3, u4, .pointer (some ⟨gs, 0, none⟩), u6, .pointer (some ⟨pb, po, none⟩), u8, u9, u10, u11, u12, u13, u14, u15, u16, u17, u18, u19, u20, u21, u22, u23, u24, u25, u26, u27, u28, u29, u30, u31, u32, u33, u34, u35, u36, u37, u38, u39, v40, v41, v42, v43, v44, v45, v46, v47, u48, u49, u50, u51, u52, u53, u54, u55, u56, u57, u58, u59, u60, u61, u62, u63, u64, u65, u66, u67, u68, u69, u70, u71, u72, u73, u74, u75, u76, u77, u78, u79, u80, u81, u82, u83, u84, u85, u86, u87, u88, u89, u90, u91, u92, u93, u94, u95, u96, u97, u98, u99, u100, u101, u102, u103, u104, u105, u106, u107, u108, u109, u110, u111, u112], []⟩ (w.drew.setCell ⟨gs, 0, none⟩ (.int .u64 (S + e)))) :
    Code.wp Try.prog (regAt 12 Try.f14) (Exit.then K Q) ⟨#[u0, u1, u2, u3, u4, .pointer (some ⟨gs, 0, none⟩), u6, .pointer (some ⟨pb, po, none⟩), u8, u9, u10, u11, u12, u13, u14, u15, u16, u17, u18, u19, u20, u21, u22, u23, u24, u25, u26, u27, u28, u29, u30, u31, u32, u33, u34, u35, u36, u37, u38, u39, u40, u41, u42, u43, u44, u45, u46, u47, u48, u49, u50, u51, u52, u53, u54, u55, u56, u57, u58, u59, u60, u61, u62, u63, u64, u65, u66, u67, u68, u69, u70, u71, u72, u73, u74, u75, u76, u77, u78, u79, u80, u81, u82, u83, u84, u85, u86, u87, u88, u89, u90, u91, u92, u93, u94, u95, u96, u97, u98, u99, u100, u101, u102, u103, u104, u105, u106, u107, u108, u109, u110, u111, u112], []⟩ w := by
  conv => arg 2; whnf
  go_still_tail 8, (by kernel_rfl)
  change wpList _ _ _ _ _ w.drew
  have hs' : w.drew.cell? ⟨gs, 0, none⟩ = some (.int .u64 S) := hs
  have hfz' : w.drew.frozen? ⟨gs, 0, none⟩ = false := hfz
  generalize w.drew = w2 at *
  clear hs hfz hp hw
  go_wp2_with fail
  exact hK _ _ _ _ _ _ _ _
set_option maxHeartbeats 4000000 in
theorem add15 {K : Act → World → Prop} {Q : Exit → Act → World → Prop} {w : World} {gs pb po : Nat} {S e : Int} {u0 u1 u2 u3 u4 u6 u8 u9 u10 u11 u12 u13 u14 u15 u16 u17 u18 u19 u20 u21 u22 u23 u24 u25 u26 u27 u28 u29 u30 u31 u32 u33 u34 u35 u36 u37 u38 u39 u40 u41 u42 u43 u44 u45 u46 u47 u48 u49 u50 u51 u52 u53 u54 u55 u56 u57 u58 u59 u60 u61 u62 u63 u64 u65 u66 u67 u68 u69 u70 u71 u72 u73 u74 u75 u76 u77 u78 u79 u80 u81 u82 u83 u84 u85 u86 u87 u88 u89 u90 u91 u92 u93 u94 u95 u96 u97 u98 u99 u100 u101 u102 u103 u104 u105 u106 u107 u108 u109 u110 u111 u112 : Value}
    (hs : w.cell? ⟨gs, 1, none⟩ = some (.int .u64 S)) (hfz : w.frozen? ⟨gs, 1, none⟩ = false) (hp : w.cell? ⟨pb, po + 80, none⟩ = some (.int .u64 e)) (hw : IntKind.u64.wrap (S + e) = S + e)
    (hK : ∀ v68 v69 v70 v71 v72 v73 v74 v75 : Value, K ⟨#[u0, u1, u2, u3, u4, .pointer (some ⟨gs, 0, none⟩), u6, .pointer (some ⟨pb, po, none⟩), u8, u9, u10, u11, u12, u13, u14, u15, u16, u17, u18, u19, u20, u21, u22, u23, u24, u25, u26, u27, u28, u29, u30, u31, u32, u33, u34, u35, u36, u37, u38, u39, u40, u41, u42, u43, u44, u45, u46, u47, u48, u49, u50, u51, u52, u53, u54, u55, u56, u57, u58, u59, u60, u61, u62, u63, u64, u65, u66, u67, v68, v69, v70, v71, v72, v73, v74, v75, u76, u77, u78, u79, u80, u81, u82, u83, u84, u85, u86, u87, u88, u89, u90, u91, u92, u93, u94, u95, u96, u97, u98, u99, u100, u101, u102, u103, u104, u105, u106, u107, u108, u109, u110, u111, u112], []⟩ (w.drew.setCell ⟨gs, 1, none⟩ (.int .u64 (S + e)))) :
    Code.wp Try.prog (regAt 15 Try.f14) (Exit.then K Q) ⟨#[u0, u1, u2, u3, u4, .pointer (some ⟨gs, 0, none⟩), u6, .pointer (some ⟨pb, po, none⟩), u8, u9, u10, u11, u12, u13, u14, u15, u16, u17, u18, u19, u20, u21, u22, u23, u24, u25, u26, u27, u28, u29, u30, u31, u32, u33, u34, u35, u36, u37, u38, u39, u40, u41, u42, u43, u44, u45, u46, u47, u48, u49, u50, u51, u52, u53, u54, u55, u56, u57, u58, u59, u60, u61, u62, u63, u64, u65, u66, u67, u68, u69, u70, u71, u72, u73, u74, u75, u76, u77, u78, u79, u80, u81, u82, u83, u84, u85, u86, u87, u88, u89, u90, u91, u92, u93, u94, u95, u96, u97, u98, u99, u100, u101, u102, u103, u104, u105, u106, u107, u108, u109, u110, u111, u112], []⟩ w := by
  conv => arg 2; whnf
  go_still_tail 8, (by kernel_rfl)
  change wpList _ _ _ _ _ w.drew
  have hs' : w.drew.cell? ⟨gs, 1, none⟩ = some (.int .u64 S) := hs
  have hfz' : w.drew.frozen? ⟨gs, 1, none⟩ = false := hfz
  generalize w.drew = w2 at *
  clear hs hfz hp hw
  go_wp2_with fail
  exact hK _ _ _ _ _ _ _ _
set_option maxHeartbeats 4000000 in
theorem add17 {K : Act → World → Prop} {Q : Exit → Act → World → Prop} {w : World} {gs pb po : Nat} {S e : Int} {u0 u1 u2 u3 u4 u6 u8 u9 u10 u11 u12 u13 u14 u15 u16 u17 u18 u19 u20 u21 u22 u23 u24 u25 u26 u27 u28 u29 u30 u31 u32 u33 u34 u35 u36 u37 u38 u39 u40 u41 u42 u43 u44 u45 u46 u47 u48 u49 u50 u51 u52 u53 u54 u55 u56 u57 u58 u59 u60 u61 u62 u63 u64 u65 u66 u67 u68 u69 u70 u71 u72 u73 u74 u75 u76 u77 u78 u79 u80 u81 u82 u83 u84 u85 u86 u87 u88 u89 u90 u91 u92 u93 u94 u95 u96 u97 u98 u99 u100 u101 u102 u103 u104 u105 u106 u107 u108 u109 u110 u111 u112 : Value}
    (hs : w.cell? ⟨gs, 2, none⟩ = some (.int .u64 S)) (hfz : w.frozen? ⟨gs, 2, none⟩ = false) (hp : w.cell? ⟨pb, po + 80, none⟩ = some (.int .u64 e)) (hw : IntKind.u64.wrap (S + e) = S + e)
    (hK : ∀ v91 v92 v93 v94 v95 v96 v97 v98 : Value, K ⟨#[u0, u1, u2, u3, u4, .pointer (some ⟨gs, 0, none⟩), u6, .pointer (some ⟨pb, po, none⟩), u8, u9, u10, u11, u12, u13, u14, u15, u16, u17, u18, u19, u20, u21, u22, u23, u24, u25, u26, u27, u28, u29, u30, u31, u32, u33, u34, u35, u36, u37, u38, u39, u40, u41, u42, u43, u44, u45, u46, u47, u48, u49, u50, u51, u52, u53, u54, u55, u56, u57, u58, u59, u60, u61, u62, u63, u64, u65, u66, u67, u68, u69, u70, u71, u72, u73, u74, u75, u76, u77, u78, u79, u80, u81, u82, u83, u84, u85, u86, u87, u88, u89, u90, v91, v92, v93, v94, v95, v96, v97, v98, u99, u100, u101, u102, u103, u104, u105, u106, u107, u108, u109, u110, u111, u112], []⟩ (w.drew.setCell ⟨gs, 2, none⟩ (.int .u64 (S + e)))) :
    Code.wp Try.prog (regAt 17 Try.f14) (Exit.inBlock 1 (Exit.then K Q)) ⟨#[u0, u1, u2, u3, u4, .pointer (some ⟨gs, 0, none⟩), u6, .pointer (some ⟨pb, po, none⟩), u8, u9, u10, u11, u12, u13, u14, u15, u16, u17, u18, u19, u20, u21, u22, u23, u24, u25, u26, u27, u28, u29, u30, u31, u32, u33, u34, u35, u36, u37, u38, u39, u40, u41, u42, u43, u44, u45, u46, u47, u48, u49, u50, u51, u52, u53, u54, u55, u56, u57, u58, u59, u60, u61, u62, u63, u64, u65, u66, u67, u68, u69, u70, u71, u72, u73, u74, u75, u76, u77, u78, u79, u80, u81, u82, u83, u84, u85, u86, u87, u88, u89, u90, u91, u92, u93, u94, u95, u96, u97, u98, u99, u100, u101, u102, u103, u104, u105, u106, u107, u108, u109, u110, u111, u112], []⟩ w := by
  conv => arg 2; whnf
  go_still_tail 8, (by kernel_rfl)
  change wpList _ _ _ _ _ w.drew
  have hs' : w.drew.cell? ⟨gs, 2, none⟩ = some (.int .u64 S) := hs
  have hfz' : w.drew.frozen? ⟨gs, 2, none⟩ = false := hfz
  generalize w.drew = w2 at *
  clear hs hfz hp hw
  go_wp2_with fail
  exact hK _ _ _ _ _ _ _ _
end Go.Proofs.Ytikbkcidalippaa
