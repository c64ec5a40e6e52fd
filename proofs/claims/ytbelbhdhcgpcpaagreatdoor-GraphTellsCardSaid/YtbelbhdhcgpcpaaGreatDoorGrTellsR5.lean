/- flittinglaw16.GraphTells, region 5. Printed by gen_tellregs.py. -/
import Derived.Test.YtbelbhdhcgpcpaaGreatDoorGrTellsD
namespace Go.Proofs.YtbelbhdhcgpcpaaGreatDoor.BkNodes
open Go.RowKit Go.Proofs.YtbelbhdhcgpcpaaGreatDoor.Base Go.Proofs.YtbelbhdhcgpcpaaGreatDoor.Bk Go.Proofs.YtbelbhdhcgpcpaaGreatDoor.Gr Go.Proofs.YtbelbhdhcgpcpaaGreatDoor.Str
set_option linter.unusedVariables false
set_option linter.unusedSimpArgs false
set_option maxRecDepth 100000 in
noncomputable def reg5 : Code := ((Tryz.f3.body.bind (regs · 5)).getD .skip)
set_option maxRecDepth 100000 in
set_option maxHeartbeats 40000000 in
theorem r5 {K : Act → World → Prop} {Q : Exit → Act → World → Prop} (A' B' C' D' : Option Addr) (a' b' c' d' : Nat) (g' h' : Gr) (w0 : World) (u0 u1 u2 u5 u6 u7 u8 u9 u10 u11 u12 u13 u14 u15 u16 u17 u18 u19 u20 u21 u22 u23 u24 u25 u26 u27 u28 u29 u30 u31 u32 u33 u34 u35 u36 u37 u38 u39 u40 u41 u42 u43 u44 u45 u46 u47 u48 u49 u50 u51 u52 u53 u54 u55 u56 u57 u58 u59 u60 u61 u62 u63 u64 u65 u66 u67 u68 u69 u70 u71 u72 u73 u74 u75 u76 u77 u78 u79 u80 u81 u82 u83 u84 u85 u86 u87 u88 u89 u90 u91 u92 u93 u94 u95 u96 u97 u98 u99 u100 u101 u102 u103 u104 u105 u106 u107 u108 u109 u110 u111 u112 u113 u114 u115 u116 u117 u118 u119 u120 u121 u122 u123 u124 u125 u126 u127 u128 u129 u130 u131 u132 u133 u134 u135 u136 : Value) (w : World) (H1 : Duo2 w0 w w0.heap.size A' B' C' D' a' b' c' d' g' h') (hs1 : Small g') (hs2 : Small h')
    
    (hK : ∀ (t36 t37 t38 t39 : Value) (q r : Nat) (w' : World), GT2 w0 w' q r → K ⟨#[u0, u1, u2, .pointer (some ⟨w0.heap.size, 0, none⟩), .pointer (some ⟨w0.heap.size + 1, 0, none⟩), u5, u6, .pointer (some ⟨q, 0, none⟩), .pointer (some ⟨r, 0, none⟩), u9, u10, u11, u12, u13, u14, u15, u16, u17, u18, u19, u20, u21, u22, u23, u24, u25, u26, u27, u28, u29, u30, u31, u32, u33, u34, u35, t36, t37, t38, t39, u40, u41, u42, u43, u44, u45, u46, u47, u48, u49, u50, u51, u52, u53, u54, u55, u56, u57, u58, u59, u60, u61, u62, u63, u64, u65, u66, u67, u68, u69, u70, u71, u72, u73, u74, u75, u76, u77, u78, u79, u80, u81, u82, u83, u84, u85, u86, u87, u88, u89, u90, u91, u92, u93, u94, u95, u96, u97, u98, u99, u100, u101, u102, u103, u104, u105, u106, u107, u108, u109, u110, u111, u112, u113, u114, u115, u116, u117, u118, u119, u120, u121, u122, u123, u124, u125, u126, u127, u128, u129, u130, u131, u132, u133, u134, u135, u136], []⟩ w') :
    Code.wp Tryz.prog reg5 (Exit.then K Q) ⟨#[u0, u1, u2, .pointer (some ⟨w0.heap.size, 0, none⟩), .pointer (some ⟨w0.heap.size + 1, 0, none⟩), u5, u6, u7, u8, u9, u10, u11, u12, u13, u14, u15, u16, u17, u18, u19, u20, u21, u22, u23, u24, u25, u26, u27, u28, u29, u30, u31, u32, u33, u34, u35, u36, u37, u38, u39, u40, u41, u42, u43, u44, u45, u46, u47, u48, u49, u50, u51, u52, u53, u54, u55, u56, u57, u58, u59, u60, u61, u62, u63, u64, u65, u66, u67, u68, u69, u70, u71, u72, u73, u74, u75, u76, u77, u78, u79, u80, u81, u82, u83, u84, u85, u86, u87, u88, u89, u90, u91, u92, u93, u94, u95, u96, u97, u98, u99, u100, u101, u102, u103, u104, u105, u106, u107, u108, u109, u110, u111, u112, u113, u114, u115, u116, u117, u118, u119, u120, u121, u122, u123, u124, u125, u126, u127, u128, u129, u130, u131, u132, u133, u134, u135, u136], []⟩ w := by
  conv => arg 2; whnf
  have HH := Lib.hid H1
  have HSS := Lib.hid (And.intro hs1 hs2)
  have K1 := Lib.hid (fun (W : World) (hb : Below w.heap.size w W) => lentG_any A' B' g' a' b' W (H1.g1.below hb) (H1.g2.below hb) (small_room hs1).1 (small_room hs1).2.1 (small_room hs1).2.2)
  have K2 := Lib.hid (fun (W : World) (hb : Below w.heap.size w W) => lentG_any C' D' h' c' d' W (H1.h1.below hb) (H1.h2.below hb) (small_room hs2).1 (small_room hs2).2.1 (small_room hs2).2.2)
  have Q := Lib.hid (show ∀ W, Below w.heap.size w W → Cells4 W w0.heap.size A' B' C' D' a' b' c' d' g' h' ∧ w0.heap.size < W.heap.size ∧ w0.heap.size + 1 < W.heap.size from fun W hb => ⟨(H1.below hb).cells, (H1.below hb).duo.boxes.1.lt, (H1.below hb).duo.boxes.2.lt⟩)
  obtain ⟨⟨x1, x2, x3, x4⟩, z1, z2⟩ := Q.out _ (Below.refl _ _)
  have HK := Lib.hid hK
  clear H1 hs1 hs2 hK
  go_region_law (first
    | ((try go_simp)
       go_at_call 7
       revert HM4; intro HM4
       refine (K2.out _ ?_).mono ?_
       (repeat (first | with_reducible exact Below.refl _ _ | with_reducible exact HB4.out | with_reducible refine Below.drew ?_ | with_reducible refine belA ?_ _))
       rintro e w5 ⟨M2, m2, N2, n2, rfl, hi5, hn5, hb5⟩
       have HB5 := Lib.hid (below_then (show Below w.heap.size w _ by (repeat (first | with_reducible exact Below.refl _ _ | with_reducible exact HB4.out | with_reducible refine Below.drew ?_ | with_reducible refine belA ?_ _))) hb5)
       have HB45 := Lib.hid (below_then (show Below w4.heap.size w4 _ by (repeat (first | with_reducible exact Below.refl _ _ | with_reducible refine Below.drew ?_ | with_reducible refine belA ?_ _))) hb5)
       have HI5 := Lib.hid (hi5.low (Nat.zero_le _))
       have HN5 := Lib.hid (hn5.low (Nat.zero_le _))
       obtain ⟨⟨x1, x2, x3, x4⟩, z1, z2⟩ := Q.out _ HB5.out
       have zz5 := HB45.out.size
       have hm4 := HM4.out.2.2
       (first
         | (have F1 := Lib.hid (show Blk w5 (w.heap.size) 25 #[.slice none 0 0, .slice none 0 0] from blk_on (by ((repeat (first | with_reducible exact E1.out | with_reducible refine Blk.alloc ?_ _ | with_reducible refine blkD ?_)); (first | done | fail))) hb5)
            have f1a := F1.out.cell 0
            have f1b := F1.out.cell 1
            have f1c := F1.out.frozen 0
            have f1d := F1.out.frozen 1
            have f1e := F1.out.lt
            simp only [List.getElem?_toArray, List.getElem?_cons_zero, List.getElem?_cons_succ] at f1a f1b
            have F2 := Lib.hid (show Blk w5 (w.heap.size + 1) 25 #[.slice none 0 0, .slice none 0 0] from blk_on (by ((repeat (first | with_reducible exact E2.out | with_reducible refine Blk.alloc ?_ _ | with_reducible refine blkD ?_)); (first | done | fail))) hb5)
            have f2a := F2.out.cell 0
            have f2b := F2.out.cell 1
            have f2c := F2.out.frozen 0
            have f2d := F2.out.frozen 1
            have f2e := F2.out.lt
            simp only [List.getElem?_toArray, List.getElem?_cons_zero, List.getElem?_cons_succ] at f2a f2b)
         | (have F1 := Lib.hid (show Blk w5 (w.heap.size) 25 #[.slice none 0 0, .slice none 0 0] from blk_on (by ((repeat (first | with_reducible exact E1.out | with_reducible refine Blk.alloc ?_ _ | with_reducible refine blkD ?_)); (first | done | fail))) hb5)
            have f1a := F1.out.cell 0
            have f1b := F1.out.cell 1
            have f1c := F1.out.frozen 0
            have f1d := F1.out.frozen 1
            have f1e := F1.out.lt
            simp only [List.getElem?_toArray, List.getElem?_cons_zero, List.getElem?_cons_succ] at f1a f1b
            have F2 := Lib.hid (show Blk w5 (w4.heap.size) 25 #[.slice none 0 0, .slice none 0 0] from blk_on (by ((repeat (first | with_reducible exact Blk.new _ _ _ | with_reducible refine Blk.alloc ?_ _ | with_reducible refine blkD ?_)); (first | done | fail))) hb5)
            have f2a := F2.out.cell 0
            have f2b := F2.out.cell 1
            have f2c := F2.out.frozen 0
            have f2d := F2.out.frozen 1
            have f2e := F2.out.lt
            simp only [List.getElem?_toArray, List.getElem?_cons_zero, List.getElem?_cons_succ] at f2a f2b)
         | (have F1 := Lib.hid (show Blk w5 (w.heap.size) 25 #[.slice none 0 0, .slice none 0 0] from blk_on (by ((repeat (first | with_reducible exact E1.out | with_reducible refine Blk.alloc ?_ _ | with_reducible refine blkD ?_)); (first | done | fail))) hb5)
            have f1a := F1.out.cell 0
            have f1b := F1.out.cell 1
            have f1c := F1.out.frozen 0
            have f1d := F1.out.frozen 1
            have f1e := F1.out.lt
            simp only [List.getElem?_toArray, List.getElem?_cons_zero, List.getElem?_cons_succ] at f1a f1b)
         | (have hnn := Blk.new (w4.alloc (.cells #[.slice none 0 0, .slice none 0 0] 25)) 25 #[.slice none 0 0, .slice none 0 0]
            rw [World.size_alloc] at hnn
            have F1 := Lib.hid (show Blk w5 (w4.heap.size) 25 #[.slice none 0 0, .slice none 0 0] from blk_on (by ((repeat (first | with_reducible exact Blk.new _ _ _ | with_reducible refine Blk.alloc ?_ _ | with_reducible refine blkD ?_)); (first | done | fail))) hb5)
            have f1a := F1.out.cell 0
            have f1b := F1.out.cell 1
            have f1c := F1.out.frozen 0
            have f1d := F1.out.frozen 1
            have f1e := F1.out.lt
            simp only [List.getElem?_toArray, List.getElem?_cons_zero, List.getElem?_cons_succ] at f1a f1b
            have F2 := Lib.hid (show Blk w5 (w4.heap.size + 1) 25 #[.slice none 0 0, .slice none 0 0] from blk_on (by ((repeat (first | with_reducible exact hnn | with_reducible refine Blk.alloc ?_ _ | with_reducible refine blkD ?_)); (first | done | fail))) hb5)
            have f2a := F2.out.cell 0
            have f2b := F2.out.cell 1
            have f2c := F2.out.frozen 0
            have f2d := F2.out.frozen 1
            have f2e := F2.out.lt
            simp only [List.getElem?_toArray, List.getElem?_cons_zero, List.getElem?_cons_succ] at f2a f2b
            clear hnn)
         | (have F1 := Lib.hid (show Blk w5 (w4.heap.size) 25 #[.slice none 0 0, .slice none 0 0] from blk_on (by ((repeat (first | with_reducible exact Blk.new _ _ _ | with_reducible refine Blk.alloc ?_ _ | with_reducible refine blkD ?_)); (first | done | fail))) hb5)
            have f1a := F1.out.cell 0
            have f1b := F1.out.cell 1
            have f1c := F1.out.frozen 0
            have f1d := F1.out.frozen 1
            have f1e := F1.out.lt
            simp only [List.getElem?_toArray, List.getElem?_cons_zero, List.getElem?_cons_succ] at f1a f1b)
         | skip)
       clear hi5 hn5 hb5 hm4)
    | ((try go_simp)
       go_at_call 7
       refine (K1.out _ ?_).mono ?_
       (repeat (first | with_reducible exact Below.refl _ _ | with_reducible exact HB4.out | with_reducible refine Below.drew ?_ | with_reducible refine belA ?_ _))
       rintro e w4 ⟨M, m, N, n, rfl, hi4, hn4, hb4⟩
       have HB4 := Lib.hid (below_then (show Below w.heap.size w _ by (repeat (first | with_reducible exact Below.refl _ _ | with_reducible refine Below.drew ?_ | with_reducible refine belA ?_ _))) hb4)
       have HM4 := Lib.hid (And.intro (hi4.low (Nat.zero_le _)) (And.intro (hn4.low (Nat.zero_le _)) HB4.out.size))
       obtain ⟨⟨x1, x2, x3, x4⟩, z1, z2⟩ := Q.out _ HB4.out
       have zz4 := HB4.out.size
       (first
         | (have hnn := Blk.new (w.alloc (.cells #[.slice none 0 0, .slice none 0 0] 25)) 25 #[.slice none 0 0, .slice none 0 0]
            rw [World.size_alloc] at hnn
            have E1 := Lib.hid (show Blk w4 (w.heap.size) 25 #[.slice none 0 0, .slice none 0 0] from blk_on (by ((repeat (first | with_reducible exact Blk.new _ _ _ | with_reducible refine Blk.alloc ?_ _ | with_reducible refine blkD ?_)); (first | done | fail))) hb4)
            have e1a := E1.out.cell 0
            have e1b := E1.out.cell 1
            have e1c := E1.out.frozen 0
            have e1d := E1.out.frozen 1
            have e1e := E1.out.lt
            simp only [List.getElem?_toArray, List.getElem?_cons_zero, List.getElem?_cons_succ] at e1a e1b
            have E2 := Lib.hid (show Blk w4 (w.heap.size + 1) 25 #[.slice none 0 0, .slice none 0 0] from blk_on (by ((repeat (first | with_reducible exact hnn | with_reducible refine Blk.alloc ?_ _ | with_reducible refine blkD ?_)); (first | done | fail))) hb4)
            have e2a := E2.out.cell 0
            have e2b := E2.out.cell 1
            have e2c := E2.out.frozen 0
            have e2d := E2.out.frozen 1
            have e2e := E2.out.lt
            simp only [List.getElem?_toArray, List.getElem?_cons_zero, List.getElem?_cons_succ] at e2a e2b
            clear hnn)
         | (have E1 := Lib.hid (show Blk w4 (w.heap.size) 25 #[.slice none 0 0, .slice none 0 0] from blk_on (by ((repeat (first | with_reducible exact Blk.new _ _ _ | with_reducible refine Blk.alloc ?_ _ | with_reducible refine blkD ?_)); (first | done | fail))) hb4)
            have e1a := E1.out.cell 0
            have e1b := E1.out.cell 1
            have e1c := E1.out.frozen 0
            have e1d := E1.out.frozen 1
            have e1e := E1.out.lt
            simp only [List.getElem?_toArray, List.getElem?_cons_zero, List.getElem?_cons_succ] at e1a e1b)
         | skip)
       clear hi4 hn4 hb4))
  all_goals
    have P : Pk w0 w w5 A' B' C' D' a' b' c' d' g' h' M N M2 N2 m n m2 n2 := ⟨HH.out, HSS.out, HB5.out, HM4.out.1.below HB45.out, HM4.out.2.1.below HB45.out, HI5.out, HN5.out⟩
    refine HK.out _ _ _ _ _ _ _ ?_
    first
      | exact P.fa (by first | exact like_self _ | exact like_drew (like_self _) | exact like_drew (like_drew (like_self _)))
      | exact P.fb (by first | exact like_self _ | exact like_drew (like_self _) | exact like_drew (like_drew (like_self _)))
      | exact P.fc F1.out (by omega) (by first | exact like_self _ | exact like_drew (like_self _) | exact like_drew (like_drew (like_self _)))
      | exact P.fd F1.out (by omega) (by first | exact like_self _ | exact like_drew (like_self _) | exact like_drew (like_drew (like_self _)))
      | exact P.fe F1.out F2.out (by omega) (by omega) (by omega) (by first | exact like_self _ | exact like_drew (like_self _) | exact like_drew (like_drew (like_self _)))
      | exact P.fe F2.out F1.out (by omega) (by omega) (by omega) (by first | exact like_self _ | exact like_drew (like_self _) | exact like_drew (like_drew (like_self _)))
      | exact P.ff F1.out F2.out (by omega) (by omega) (by omega) (by first | exact like_self _ | exact like_drew (like_self _) | exact like_drew (like_drew (like_self _)))
      | exact P.ff F2.out F1.out (by omega) (by omega) (by omega) (by first | exact like_self _ | exact like_drew (like_self _) | exact like_drew (like_drew (like_self _)))
end Go.Proofs.YtbelbhdhcgpcpaaGreatDoor.BkNodes
