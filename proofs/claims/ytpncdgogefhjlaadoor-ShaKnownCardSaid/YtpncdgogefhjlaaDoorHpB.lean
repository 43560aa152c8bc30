/- Loop 5 of the reference's Hash: the schedule. -/
import Derived.Test.YtpncdgogefhjlaaDoorHashRA
import Derived.Test.YtpncdgogefhjlaaDoorShaE
import Derived.Test.YtpncdgogefhjlaaDoorCatS
import Derived.Test.YtpncdgogefhjlaaDoorPick
import Derived.IntWalk
import Derived.Deep.Cut
import Derived.Deep.RegionHeld3
import Derived.Test.YtpncdgogefhjlaaDoorHpS
namespace Go.Proofs.YtpncdgogefhjlaaDoor
open Go.RowKit

set_option maxRecDepth 1000000 in
set_option maxHeartbeats 16000000 in
theorem hpB {u0 u1 u2 u3 u4 u5 u6 u7 u8 u9 u10 u11 u13 u14 u15 u16 u17 u18 u19 u20 u21 u22 u23 u24 u25 u26 u27 u28 u29 u30 u31 u32 u33 u34 u35 u36 u37 u38 u39 u40 u41 u42 u43 u44 u45 u46 u47 u48 u49 u50 u51 u52 u53 u54 u55 u56 u57 u58 u59 u60 u61 u62 u63 u64 u65 u66 u67 u68 u69 u70 u71 u72 u73 u74 u75 u76 u77 u78 u79 u80 u81 u82 u83 u84 u85 u86 u87 u88 u89 u90 u91 u92 u93 u94 u95 u96 u97 u98 u99 u100 u101 u102 u103 u104 u105 u106 u107 u108 u109 u110 u111 u112 u113 u114 u115 u116 u117 u118 u119 u120 u121 u122 u123 u124 u125 u126 u127 u128 u129 u130 u131 u132 u133 u134 u135 u136 u137 u138 u139 u140 u141 u142 u143 u144 u145 u146 u147 u148 u149 u150 u151 u152 u153 u154 u155 u156 u157 u158 u159 u160 u161 u162 u163 u164 u165 u166 u167 u168 u169 u170 u171 u172 u173 u174 u175 u176 u177 u178 u179 u180 u181 u182 u183 u184 u185 u186 u187 u188 u189 u190 u191 u192 u193 u194 u195 u196 u197 u198 u199 u200 u201 u202 u203 u204 u205 u206 u207 u208 u209 u210 u211 u212 u213 u214 u215 u216 u217 u218 u219 u220 u221 u222 u223 u224 u225 u226 u227 u228 u229 u230 u231 u232 u233 u234 u235 u236 u237 u238 u239 u240 u241 u242 u243 u244 u245 u246 u247 u248 u249 u250 u251 u252 u253 u254 u255 u256 u257 u258 u259 u260 u261 u262 u263 u264 u265 u266 u267 u268 u269 u270 u271 u272 u273 u274 u275 u276 u277 u278 u279 u280 u281 u282 u283 u284 u285 u286 u287 u288 u289 u290 u291 u292 u293 u294 u295 u296 u297 u298 u299 u300 u301 u302 u303 u304 : Value} {Q : Exit → Act → World → Prop} {B : Nat} {v12 : Value} {b : List Nat} {w : World} (hX : ∀ d ∈ b, d < 256) (hW : w.ownsRow B 28 1 v12 16 (nums .u32 (wordsN b 16))) (hBw : B ≤ w.heap.size)
    (hQ : ∀ (n14 n15 n16 n118 n119 n120 n121 n122 n123 n124 n125 n126 n127 n128 n129 n130 n131 n132 n133 n134 n135 n136 n137 n138 n139 n140 n141 n142 n143 n144 n145 n146 n147 n148 n149 n150 n151 n152 n153 n154 n155 n156 n157 n158 n159 n160 n161 n162 n163 n164 n165 n166 n167 n168 n169 n170 n171 n172 n173 n174 n175 n176 n177 n178 n179 : Value) (v : Value) (w' : World), w'.ownsRow B 28 1 v 64 (nums .u32 (schedN b 48)) → Below B w w' → Q .normal ⟨#[u0, u1, u2, u3, u4, u5, u6, u7, u8, u9, u10, u11, v, u13, n14, n15, n16, u17, u18, u19, u20, u21, u22, u23, u24, u25, u26, u27, u28, u29, u30, u31, u32, u33, u34, u35, u36, u37, u38, u39, u40, u41, u42, u43, u44, u45, u46, u47, u48, u49, u50, u51, u52, u53, u54, u55, u56, u57, u58, u59, u60, u61, u62, u63, u64, u65, u66, u67, u68, u69, u70, u71, u72, u73, u74, u75, u76, u77, u78, u79, u80, u81, u82, u83, u84, u85, u86, u87, u88, u89, u90, u91, u92, u93, u94, u95, u96, u97, u98, u99, u100, u101, u102, u103, u104, u105, u106, u107, u108, u109, u110, u111, u112, u113, u114, u115, u116, u117, n118, n119, n120, n121, n122, n123, n124, n125, n126, n127, n128, n129, n130, n131, n132, n133, n134, n135, n136, n137, n138, n139, n140, n141, n142, n143, n144, n145, n146, n147, n148, n149, n150, n151, n152, n153, n154, n155, n156, n157, n158, n159, n160, n161, n162, n163, n164, n165, n166, n167, n168, n169, n170, n171, n172, n173, n174, n175, n176, n177, n178, n179, u180, u181, u182, u183, u184, u185, u186, u187, u188, u189, u190, u191, u192, u193, u194, u195, u196, u197, u198, u199, u200, u201, u202, u203, u204, u205, u206, u207, u208, u209, u210, u211, u212, u213, u214, u215, u216, u217, u218, u219, u220, u221, u222, u223, u224, u225, u226, u227, u228, u229, u230, u231, u232, u233, u234, u235, u236, u237, u238, u239, u240, u241, u242, u243, u244, u245, u246, u247, u248, u249, u250, u251, u252, u253, u254, u255, u256, u257, u258, u259, u260, u261, u262, u263, u264, u265, u266, u267, u268, u269, u270, u271, u272, u273, u274, u275, u276, u277, u278, u279, u280, u281, u282, u283, u284, u285, u286, u287, u288, u289, u290, u291, u292, u293, u294, u295, u296, u297, u298, u299, u300, u301, u302, u303, u304], []⟩ w') :
    Code.wp Tryd.prog (headC ((Tryd.f22.body.bind (pickR 21)).getD .skip)) Q ⟨#[u0, u1, u2, u3, u4, u5, u6, u7, u8, u9, u10, u11, v12, u13, u14, u15, u16, u17, u18, u19, u20, u21, u22, u23, u24, u25, u26, u27, u28, u29, u30, u31, u32, u33, u34, u35, u36, u37, u38, u39, u40, u41, u42, u43, u44, u45, u46, u47, u48, u49, u50, u51, u52, u53, u54, u55, u56, u57, u58, u59, u60, u61, u62, u63, u64, u65, u66, u67, u68, u69, u70, u71, u72, u73, u74, u75, u76, u77, u78, u79, u80, u81, u82, u83, u84, u85, u86, u87, u88, u89, u90, u91, u92, u93, u94, u95, u96, u97, u98, u99, u100, u101, u102, u103, u104, u105, u106, u107, u108, u109, u110, u111, u112, u113, u114, u115, u116, u117, u118, u119, u120, u121, u122, u123, u124, u125, u126, u127, u128, u129, u130, u131, u132, u133, u134, u135, u136, u137, u138, u139, u140, u141, u142, u143, u144, u145, u146, u147, u148, u149, u150, u151, u152, u153, u154, u155, u156, u157, u158, u159, u160, u161, u162, u163, u164, u165, u166, u167, u168, u169, u170, u171, u172, u173, u174, u175, u176, u177, u178, u179, u180, u181, u182, u183, u184, u185, u186, u187, u188, u189, u190, u191, u192, u193, u194, u195, u196, u197, u198, u199, u200, u201, u202, u203, u204, u205, u206, u207, u208, u209, u210, u211, u212, u213, u214, u215, u216, u217, u218, u219, u220, u221, u222, u223, u224, u225, u226, u227, u228, u229, u230, u231, u232, u233, u234, u235, u236, u237, u238, u239, u240, u241, u242, u243, u244, u245, u246, u247, u248, u249, u250, u251, u252, u253, u254, u255, u256, u257, u258, u259, u260, u261, u262, u263, u264, u265, u266, u267, u268, u269, u270, u271, u272, u273, u274, u275, u276, u277, u278, u279, u280, u281, u282, u283, u284, u285, u286, u287, u288, u289, u290, u291, u292, u293, u294, u295, u296, u297, u298, u299, u300, u301, u302, u303, u304], []⟩ w := by
  have HX := hid hX
  have HW := hid hW
  have HQ := hid hQ
  clear hX hW hQ
  conv => arg 2; whnf
  go_wp2
  go_loopw [12, 14] (fun x12 x14 wr => ∃ (j i : Nat) (v : Value), Hid (i = 16 + j) ∧ i ≤ 64 ∧ x14 = .int .i64 i ∧ v = x12 ∧ wr.ownsRow B 28 1 v (16 + j) (nums .u32 (schedN b j)) ∧ Below B w wr) (fun _ x14 _ => 64 - (intOf x14).toNat)
  case atStart => exact ⟨0, 16, _, hid rfl, by omega, rfl, rfl, HW.out, Below.refl _ _⟩
  case round =>
    obtain ⟨j, i, v, hij, hi64, rfl, rfl, ho, hb⟩ := hrel
    clear HW
    by_cases hlt : i < 64
    · have hij' := hij.out
      obtain ⟨gw, cw, rfl, hwB, hwn⟩ : ∃ gw cw, v = .slice (some ⟨gw, 0, none⟩) (16 + j) cw ∧ B ≤ gw ∧ gw < wr.heap.size := by
        rcases ho.2 with ⟨_, h0⟩ | ⟨g, c, cur, e, hg, hh, _⟩
        · omega
        · exact ⟨g, c, e, hg, (Array.getElem?_eq_some_iff.1 hh).1⟩
      obtain ⟨a15, h15⟩ : ∃ q, q = i - 15 := ⟨_, rfl⟩
      obtain ⟨a2, h2⟩ : ∃ q, q = i - 2 := ⟨_, rfl⟩
      obtain ⟨a16, h16⟩ : ∃ q, q = i - 16 := ⟨_, rfl⟩
      obtain ⟨a7, h7⟩ : ∃ q, q = i - 7 := ⟨_, rfl⟩
      have n15 : (i : Int) - 15 = (a15 : Int) := by omega
      have n2 : (i : Int) - 2 = (a2 : Int) := by omega
      have n16 : (i : Int) - 16 = (a16 : Int) := by omega
      have n7 : (i : Int) - 7 = (a7 : Int) := by omega
      have hWl := schedN_len b j
      have get : ∀ q, q < i → wr.cell? ⟨gw, q, none⟩ = some (.int .u32 (((schedN b j).getD q 0 : Nat) : Int)) := by
        intro q hq
        rw [ho.cellAt q (by omega), nums_get .u32 (by omega)]
      have c15 := get a15 (by omega)
      have c2 := get a2 (by omega)
      have c16 := get a16 (by omega)
      have c7 := get a7 (by omega)
      have l15 := getDlt (schedN_lt HX.out j) (by omega) a15
      have l2 := getDlt (schedN_lt HX.out j) (by omega) a2
      have l16 := getDlt (schedN_lt HX.out j) (by omega) a16
      have l7 := getDlt (schedN_lt HX.out j) (by omega) a7
      have HN := hid (show wnext (schedN b j) (16 + j) = ((schedN b j).getD a16 0 + sgp ((schedN b j).getD a15 0) + (schedN b j).getD a7 0 + sgq ((schedN b j).getD a2 0)) % 4294967296 by rw [h15, h2, h16, h7, hij']; rfl)
      generalize (schedN b j).getD a15 0 = y15 at *
      generalize (schedN b j).getD a2 0 = y2 at *
      generalize h16w : (schedN b j).getD a16 0 = y16 at *
      generalize h7w : (schedN b j).getD a7 0 = y7 at *
      have h16v := hid h16w
      have h7v := hid h7w
      clear h16w h7w
      have R1 := sgp_rule l15
      have R2 := sgq_rule l2
      have s1 := sgp_lt l15
      have s2 := sgq_lt l2
      have HO := hid ho
      have HB' := hid hb
      obtain ⟨NL, hNL⟩ : ∃ q, q = 16 + j := ⟨_, rfl⟩
      have i15 : (a15 : Int) < (NL : Int) := by omega
      have i2 : (a2 : Int) < (NL : Int) := by omega
      have i16 : (a16 : Int) < (NL : Int) := by omega
      have i7 : (a7 : Int) < (NL : Int) := by omega
      have hNL64 : NL < 64 := by omega
      have HNL := hid hNL
      rw [← hNL] at HO ⊢
      clear ho hb get hWl h15 h2 h16 h7 hij' hNL
      go_upto_region 24 with (fail)
      go_quiet ((go_at_call 31; first | with_reducible exact quiet_same (turn7_walk y15 l15 _) | with_reducible exact quiet_same (turn18_walk y15 l15 _)))
      have b5 := below_drewN (Below.refl wr.heap.size wr) nq
      have c2' := cell_keep' c2 b5
      have c16' := cell_keep' c16 b5
      have c7' := cell_keep' c7 b5
      have HO5 := hid (own_below HO.out b5)
      have HB5 := hid (HB'.out.trans (below_drewN (Below.refl B wr) nq))
      clear c15 R1 c2 c16 c7 HO HB' b5
      go_upto_region 25 with (fail)
      generalize wr.drewN nq = w5 at *
      go_quiet ((go_at_call 31; first | with_reducible exact quiet_same (turn17_walk y2 l2 _) | with_reducible exact quiet_same (turn19_walk y2 l2 _)))
      have b6 := below_drewN (Below.refl w5.heap.size w5) nq
      have c16 := cell_keep' c16' b6
      have c7 := cell_keep' c7' b6
      have HO6 := hid (own_below HO5.out b6)
      have HB6 := hid (HB5.out.trans (below_drewN (Below.refl B w5) nq))
      clear c2' R2 c16' c7' HO5 HB5 b6
      go_upto_region 26 with (fail)
      generalize w5.drewN nq = w6 at *
      obtain ⟨V, hV⟩ : ∃ V : Nat, V = wnext (schedN b j) (16 + j) := ⟨_, rfl⟩
      obtain ⟨V1, hV1⟩ : ∃ V : Nat, V = (y16 + sgp y15) % 4294967296 := ⟨_, rfl⟩
      obtain ⟨V2, hV2⟩ : ∃ V : Nat, V = (V1 + y7) % 4294967296 := ⟨_, rfl⟩
      have m1 : IntKind.u32.wrap ((y16 : Int) + (sgp y15 : Int)) = (V1 : Int) := by rw [IntKind.wrap_u32]; omega
      have m2 : IntKind.u32.wrap ((V1 : Int) + (y7 : Int)) = (V2 : Int) := by rw [IntKind.wrap_u32]; omega
      have m3 : IntKind.u32.wrap ((V2 : Int) + (sgq y2 : Int)) = (V : Int) := by rw [IntKind.wrap_u32, hV, HN.out]; omega
      have HV := hid hV
      clear hV hV1 hV2
      have bN := (Below.refl w6.heap.size w6).alloc (Nat.le_refl _) (.cells #[.int .u32 (V : Int)] 28)
      have hBs := HB6.out.size
      have e0 := cell_keep' c16 bN.drew
      have e1 := cell_keep' c7 bN.drew
      have oN := hid (own_below HO6.out bN.drew)
      have jw16 : IntKind.i64.wrap (a16 : Int) = (a16 : Int) := IntWalk.i64_in _ (by omega)
      have jw7 : IntKind.i64.wrap (a7 : Int) = (a7 : Int) := IntWalk.i64_in _ (by omega)
      have hu0 : ((w6.alloc (.cells #[.int .u32 (V : Int)] 28)).drew).cell? ((⟨w6.heap.size, 0, none⟩ : Addr).add 0) = some (.int .u32 (V : Int)) := cells_new w6 #[.int .u32 (V : Int)] 28 0 _ rfl
      have x16 := nums_get .u32 (show a16 < (schedN b j).length by rw [schedN_len, ← HNL.out]; omega)
      have x7 := nums_get .u32 (show a7 < (schedN b j).length by rw [schedN_len, ← HNL.out]; omega)
      rw [h16v.out] at x16
      rw [h7v.out] at x7
      go_region_held3 (fun w' => w'.cell? ⟨gw, a16, none⟩ = some (.int .u32 (y16 : Int)) ∧ w'.cell? ⟨gw, a7, none⟩ = some (.int .u32 (y7 : Int)))
        (first | exact ⟨c16, c7⟩ | exact ⟨e0, e1⟩ | exact ⟨st9 _ _ x16, st9 _ _ x7⟩)
        (first | (refine step_pushS rfl (.tmp 162) (.tmp 178) 83 rfl tyU32s B oN.out rfl rfl hu0 rfl (by omega) (by decide) (by simp; omega) ?_; intro v9 w9 o9 g9 st9) | fail)
      have O9 := hid (show w9.ownsRow B 28 1 v9 (16 + (j + 1)) (nums .u32 (schedN b (j + 1))) by
        rw [schedN, ← HV.out, ← nums_snoc .u32 rfl, show 16 + (j + 1) = NL + 1 by rw [HNL.out]; rfl]; exact o9)
      have B9 := hid ((HB6.out.trans (bN.drew.mono (Nat.le_trans hBw hBs))).grown g9 (by simp; omega) (fun k hk => by simp at hk; omega))
      clear o9 g9 st9 e0 e1 c16 c7 bN oN jw16 jw7 m1 m2 m3 x16 x7 hu0 i15 i2 i16 i7 n15 n2 n16 n7
      go_wp2
      go_roundw
      case rel => exact ⟨j + 1, i + 1, v9, hid (by have := hij.out; omega), by omega, by go_num, rfl, O9.out, B9.out⟩
      case measure => simp only [intOf]; omega
    · have hj : j = 48 := by have := hij.out; omega
      subst hj
      have HO := hid ho
      have HB := hid hb
      clear ho hb
      go_wp2
      apply HQ.out
      · exact HO.out
      · exact HB.out
end Go.Proofs.YtpncdgogefhjlaaDoor
