/- flittinglaw19.CodeTells, region 21. Printed by gen_coderegs.py. -/
import Derived.Test.YtdlapjfcmhkieaaDoorCodeRegs
namespace Go.Proofs.YtdlapjfcmhkieaaDoor.Ver
open Go.RowKit Go.Proofs.YtdlapjfcmhkieaaDoor.Base
set_option linter.unusedVariables false
set_option linter.unusedSimpArgs false
set_option maxRecDepth 100000 in
noncomputable def reg21 : Code := ((Tryd.f3.body.bind (regs · 21)).getD .skip)
set_option maxRecDepth 100000 in
set_option maxHeartbeats 8000000 in
theorem r21 {K : Act → World → Prop} {Q : Exit → Act → World → Prop} (ad : Addr) (n c k : Nat) (tv xo xa xb xc : Int) (tb : Bool) (u1 u2 u3 u4 u5 u6 u7 u8 u9 u11 u12 u15 u16 u17 u18 u19 u20 u21 u22 u23 u24 u25 u26 u27 u28 u29 u30 u31 u32 u33 u34 u35 u36 u37 u38 u39 u40 u41 u42 u43 u44 u45 u46 u47 u48 u49 u50 u51 u52 u53 u54 u55 u56 u57 u58 u59 u60 u61 u62 u63 u64 u65 u66 u67 u68 u69 u70 u71 u72 u73 u74 u75 u76 u77 u78 u79 u80 u81 u82 u83 u84 u85 u86 u87 u88 u89 u90 u91 u92 u93 u94 u95 u96 u97 u98 u99 u100 u101 u102 u103 u104 u105 u106 u107 u108 u109 u110 u111 u112 u113 u114 u115 u116 u117 u118 u119 u120 u121 u122 u123 u124 u125 u126 u127 u128 u129 u130 u131 u132 u133 u134 u135 u136 u137 u138 u139 u140 u141 u142 u143 u144 u145 u146 u147 u148 u149 u150 u151 u152 u153 u154 u155 u156 u157 u158 u159 u160 u161 u162 u163 u164 u165 u166 u167 u168 u169 u170 u171 u172 u173 u174 u175 u176 u177 u178 u179 u180 u181 u182 u183 u184 u185 u186 u187 u188 u189 u190 u191 u192 u193 u194 u195 u196 u197 u198 u199 u200 u201 u202 u203 u204 u205 u206 u207 u208 u209 u210 u211 u212 u213 u214 u215 u216 u217 u218 u219 u220 u221 u222 u223 u224 u225 u226 u227 u228 u229 u230 u231 u232 u233 u234 u235 u236 u237 u238 u239 u240 u241 u242 u243 u244 u245 u246 u247 u248 u249 u250 u251 u252 u253 u254 u255 u256 u257 u258 u259 u260 u261 u262 u263 u264 u265 u266 u267 u268 u269 u270 u271 u272 u273 u274 u275 u276 u277 u278 u279 u280 u281 u282 u283 u284 u285 u286 u287 u288 u289 u290 u291 u292 u293 u294 u295 u296 u297 u298 u299 u300 u301 u302 u303 u304 u305 u306 u307 u308 u309 u310 u311 u312 u313 u314 u315 u316 u317 u318 u319 u320 u321 u322 u323 u324 u325 u326 u327 u328 u329 u330 u331 u332 u333 u334 u335 : Value) (w : World) (p0 : (0 : Int) ≤ k) (p2 : (k : Int) < n) (hk : k < n) (HTV : Hid (TgtIs tb tv xo xb xc))
    (c0 : w.cell? (ad.add (k * 4)) = some (.int .i64 xo)) (c1 : w.cell? ⟨(ad.add (k * 4)).block, (ad.add (k * 4)).off + 1, none⟩ = some (.int .i64 xa)) (c2 : w.cell? ⟨(ad.add (k * 4)).block, (ad.add (k * 4)).off + 2, none⟩ = some (.int .i64 xb)) (c3 : w.cell? ⟨(ad.add (k * 4)).block, (ad.add (k * 4)).off + 3, none⟩ = some (.int .i64 xc))
    (hK : ∀ (t174 t175 t176 t177 t178 t179 t180 t181 t182 t183 t184 t185 t186 t187 t188 t189 t190 t191 t192 t193 t194 t195 t196 t197 t198 t199 t200 t201 t202 t203 t204 t205 t206 t207 t208 t209 t210 t211 t212 t213 t214 t215 t216 t217 t218 t219 t220 t221 t222 t223 t224 t225 t226 t227 t228 t229 t230 t231 t232 t233 t234 t235 t236 t237 t238 t239 t240 t241 t242 t243 t244 t245 t246 t247 : Value) (w' : World), Below w.heap.size w w' → K ⟨#[.slice (some ad) n c, u1, u2, u3, u4, u5, u6, u7, u8, u9, .int .i64 k, u11, u12, .int .i64 tv, .bool tb, u15, u16, u17, u18, u19, u20, u21, u22, u23, u24, u25, u26, u27, u28, u29, u30, u31, u32, u33, u34, u35, u36, u37, u38, u39, u40, u41, u42, u43, u44, u45, u46, u47, u48, u49, u50, u51, u52, u53, u54, u55, u56, u57, u58, u59, u60, u61, u62, u63, u64, u65, u66, u67, u68, u69, u70, u71, u72, u73, u74, u75, u76, u77, u78, u79, u80, u81, u82, u83, u84, u85, u86, u87, u88, u89, u90, u91, u92, u93, u94, u95, u96, u97, u98, u99, u100, u101, u102, u103, u104, u105, u106, u107, u108, u109, u110, u111, u112, u113, u114, u115, u116, u117, u118, u119, u120, u121, u122, u123, u124, u125, u126, u127, u128, u129, u130, u131, u132, u133, u134, u135, u136, u137, u138, u139, u140, u141, u142, u143, u144, u145, u146, u147, u148, u149, u150, u151, u152, u153, u154, u155, u156, u157, u158, u159, u160, u161, u162, u163, u164, u165, u166, u167, u168, u169, u170, u171, u172, u173, t174, t175, t176, t177, t178, t179, t180, t181, t182, t183, t184, t185, t186, t187, t188, t189, t190, t191, t192, t193, t194, t195, t196, t197, t198, t199, t200, t201, t202, t203, t204, t205, t206, t207, t208, t209, t210, t211, t212, t213, t214, t215, t216, t217, t218, t219, t220, t221, t222, t223, t224, t225, t226, t227, t228, t229, t230, t231, t232, t233, t234, t235, t236, t237, t238, t239, t240, t241, t242, t243, t244, t245, t246, t247, .bool false, u249, u250, u251, u252, u253, u254, u255, u256, u257, u258, u259, u260, u261, u262, u263, u264, u265, u266, u267, u268, u269, u270, u271, u272, u273, u274, u275, u276, u277, u278, u279, u280, u281, u282, u283, u284, u285, u286, u287, u288, u289, u290, u291, u292, u293, u294, u295, u296, u297, u298, u299, u300, u301, u302, u303, u304, u305, u306, u307, u308, u309, u310, u311, u312, u313, u314, u315, u316, u317, u318, u319, u320, u321, u322, u323, u324, u325, u326, u327, u328, u329, u330, u331, u332, u333, u334, u335], []⟩ w') :
    Code.wp Tryd.prog reg21 (Exit.then K Q) ⟨#[.slice (some ad) n c, u1, u2, u3, u4, u5, u6, u7, u8, u9, .int .i64 k, u11, u12, .int .i64 tv, .bool tb, u15, u16, u17, u18, u19, u20, u21, u22, u23, u24, u25, u26, u27, u28, u29, u30, u31, u32, u33, u34, u35, u36, u37, u38, u39, u40, u41, u42, u43, u44, u45, u46, u47, u48, u49, u50, u51, u52, u53, u54, u55, u56, u57, u58, u59, u60, u61, u62, u63, u64, u65, u66, u67, u68, u69, u70, u71, u72, u73, u74, u75, u76, u77, u78, u79, u80, u81, u82, u83, u84, u85, u86, u87, u88, u89, u90, u91, u92, u93, u94, u95, u96, u97, u98, u99, u100, u101, u102, u103, u104, u105, u106, u107, u108, u109, u110, u111, u112, u113, u114, u115, u116, u117, u118, u119, u120, u121, u122, u123, u124, u125, u126, u127, u128, u129, u130, u131, u132, u133, u134, u135, u136, u137, u138, u139, u140, u141, u142, u143, u144, u145, u146, u147, u148, u149, u150, u151, u152, u153, u154, u155, u156, u157, u158, u159, u160, u161, u162, u163, u164, u165, u166, u167, u168, u169, u170, u171, u172, u173, u174, u175, u176, u177, u178, u179, u180, u181, u182, u183, u184, u185, u186, u187, u188, u189, u190, u191, u192, u193, u194, u195, u196, u197, u198, u199, u200, u201, u202, u203, u204, u205, u206, u207, u208, u209, u210, u211, u212, u213, u214, u215, u216, u217, u218, u219, u220, u221, u222, u223, u224, u225, u226, u227, u228, u229, u230, u231, u232, u233, u234, u235, u236, u237, u238, u239, u240, u241, u242, u243, u244, u245, u246, u247, u248, u249, u250, u251, u252, u253, u254, u255, u256, u257, u258, u259, u260, u261, u262, u263, u264, u265, u266, u267, u268, u269, u270, u271, u272, u273, u274, u275, u276, u277, u278, u279, u280, u281, u282, u283, u284, u285, u286, u287, u288, u289, u290, u291, u292, u293, u294, u295, u296, u297, u298, u299, u300, u301, u302, u303, u304, u305, u306, u307, u308, u309, u310, u311, u312, u313, u314, u315, u316, u317, u318, u319, u320, u321, u322, u323, u324, u325, u326, u327, u328, u329, u330, u331, u332, u333, u334, u335], []⟩ w := by
  conv => arg 2; whnf
  have z0 := cell_lt c0
  rcases HTV.out with ⟨rfl, hop, htv⟩ | ⟨rfl, hop, rfl⟩
  · by_cases hin : (-1099511627776 < xb ∧ xb < 1099511627776) ∧ (-1099511627776 < xc ∧ xc < 1099511627776)
    · have htv2 : tv = xb + 256 * xc := htv.trans (tgt_small xb xc hin.1 hin.2).symm
      have HEQ := Lib.hid htv2
      obtain ⟨⟨h1, h2⟩, h3, h4⟩ := hin
      have g1 : decide (xc < 1099511627776) = true := decide_eq_true h4
      have g2 : decide (xc > -1099511627776) = true := decide_eq_true h3
      have g3 : decide (xb < 1099511627776) = true := decide_eq_true h2
      have g4 : decide (xb > -1099511627776) = true := decide_eq_true h1
      have w1 : IntKind.i64.wrap (256 * xc) = 256 * xc := IntWalk.i64_in _ (by omega)
      have w2 : IntKind.i64.wrap (xb + 256 * xc) = xb + 256 * xc := IntWalk.i64_in _ (by omega)
      subst htv2
      clear htv HTV
      rcases hop with rfl | rfl
      all_goals
        go_wp2_with fail
        go_quiet (fail)
        go_wp2_with fail
        exact (below_drewN (Below.refl w.heap.size w) _)
    · clear htv HTV
      rcases (by omega : ¬ xc < 1099511627776 ∨ (xc < 1099511627776 ∧ ¬ xc > -1099511627776) ∨ (xc < 1099511627776 ∧ xc > -1099511627776 ∧ ¬ xb < 1099511627776) ∨ (xc < 1099511627776 ∧ xc > -1099511627776 ∧ xb < 1099511627776 ∧ ¬ xb > -1099511627776)) with h1 | ⟨h1, h2⟩ | ⟨h1, h2, h3⟩ | ⟨h1, h2, h3, h4⟩
      · have g1 : decide (xc < 1099511627776) = false := decide_eq_false h1
        clear hin h1
        rcases hop with rfl | rfl
        all_goals
          go_wp2_with fail
          go_quiet (fail)
          go_wp2_with fail
          exact (below_drewN (Below.refl w.heap.size w) _)
      · have g1 : decide (xc < 1099511627776) = true := decide_eq_true h1
        have g2 : decide (xc > -1099511627776) = false := decide_eq_false h2
        clear hin h1 h2
        rcases hop with rfl | rfl
        all_goals
          go_wp2_with fail
          go_quiet (fail)
          go_wp2_with fail
          exact (below_drewN (Below.refl w.heap.size w) _)
      · have g1 : decide (xc < 1099511627776) = true := decide_eq_true h1
        have g2 : decide (xc > -1099511627776) = true := decide_eq_true h2
        have g3 : decide (xb < 1099511627776) = false := decide_eq_false h3
        clear hin h1 h2 h3
        rcases hop with rfl | rfl
        all_goals
          go_wp2_with fail
          go_quiet (fail)
          go_wp2_with fail
          exact (below_drewN (Below.refl w.heap.size w) _)
      · have g1 : decide (xc < 1099511627776) = true := decide_eq_true h1
        have g2 : decide (xc > -1099511627776) = true := decide_eq_true h2
        have g3 : decide (xb < 1099511627776) = true := decide_eq_true h3
        have g4 : decide (xb > -1099511627776) = false := decide_eq_false h4
        clear hin h1 h2 h3 h4
        rcases hop with rfl | rfl
        all_goals
          go_wp2_with fail
          go_quiet (fail)
          go_wp2_with fail
          exact (below_drewN (Below.refl w.heap.size w) _)
  · have e5 : (xo == 5) = false := beq_eq_false_iff_ne.mpr (fun e => hop (.inl e))
    have e6 : (xo == 6) = false := beq_eq_false_iff_ne.mpr (fun e => hop (.inr e))
    clear hop HTV
    go_wp2_with fail
    go_quiet (fail)
    go_wp2_with fail
    exact (below_drewN (Below.refl w.heap.size w) _)
end Go.Proofs.YtdlapjfcmhkieaaDoor.Ver
