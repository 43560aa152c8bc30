/- Loop 6 of the reference's Hash: the rounds. -/
import Derived.Test.YtpncdgogefhjlaaDoorHashRA
import Derived.Test.YtpncdgogefhjlaaDoorShaE
import Derived.Test.YtpncdgogefhjlaaDoorCatS
import Derived.Test.YtpncdgogefhjlaaDoorPick
import Derived.IntWalk
import Derived.Deep.Cut
import Derived.Deep.RegionHeld3
import Derived.Test.YtpncdgogefhjlaaDoorHpS
namespace Go.Proofs.YtpncdgogefhjlaaDoor
open Go.RowKit

set_option maxRecDepth 1000000 in
set_option maxHeartbeats 16000000 in
theorem hpC {u0 u1 u2 u3 u4 u6 u7 u8 u9 u10 u11 u13 u14 u15 u16 u25 u26 u27 u28 u29 u30 u31 u32 u33 u34 u35 u36 u37 u38 u39 u40 u41 u42 u43 u44 u45 u46 u47 u48 u49 u50 u51 u52 u53 u54 u55 u56 u57 u58 u59 u60 u61 u62 u63 u64 u65 u66 u67 u68 u69 u70 u71 u72 u73 u74 u75 u76 u77 u78 u79 u80 u81 u82 u83 u84 u85 u86 u87 u88 u89 u90 u91 u92 u93 u94 u95 u96 u97 u98 u99 u100 u101 u102 u103 u104 u105 u106 u107 u108 u109 u110 u111 u112 u113 u114 u115 u116 u117 u118 u119 u120 u121 u122 u123 u124 u125 u126 u127 u128 u129 u130 u131 u132 u133 u134 u135 u136 u137 u138 u139 u140 u141 u142 u143 u144 u145 u146 u147 u148 u149 u150 u151 u152 u153 u154 u155 u156 u157 u158 u159 u160 u161 u162 u163 u164 u165 u166 u167 u168 u169 u170 u171 u172 u173 u174 u175 u176 u177 u178 u179 u180 u181 u182 u183 u184 u185 u186 u187 u188 u189 u190 u191 u192 u193 u194 u195 u196 u197 u198 u199 u200 u201 u202 u203 u204 u205 u206 u207 u208 u209 u210 u211 u212 u213 u214 u215 u216 u217 u218 u219 u220 u221 u222 u223 u224 u225 u226 u227 u228 u229 u230 u231 u232 u233 u234 u235 u236 u237 u238 u239 u240 u241 u242 u243 u244 u245 u246 u247 u248 u249 u250 u251 u252 u253 u254 u255 u256 u257 u258 u259 u260 u261 u262 u263 u264 u265 u266 u267 u268 u269 u270 u271 u272 u273 u274 u275 u276 u277 u278 u279 u280 u281 u282 u283 u284 u285 u286 u287 u288 u289 u290 u291 u292 u293 u294 u295 u296 u297 u298 u299 u300 u301 u302 u303 u304 : Value} {Q : Exit → Act → World → Prop} {GK gw cw z0 z1 z2 z3 z4 z5 z6 z7 : Nat} {K W : List Nat} {w : World} (hz : (St.mk z0 z1 z2 z3 z4 z5 z6 z7).ok) (hK2 : ∀ d ∈ K, d < 4294967296) (hW2 : ∀ d ∈ W, d < 4294967296) (hkc : ∀ n, n < 64 → w.cell? ⟨GK, n, none⟩ = some (.int .u32 ((K.getD n 0 : Nat) : Int))) (hwc : ∀ n, n < 64 → w.cell? ⟨gw, n, none⟩ = some (.int .u32 ((W.getD n 0 : Nat) : Int)))
    (hQ : ∀ (n25 n26 n27 n196 n197 n198 n199 n200 n201 n202 n203 n204 n205 n206 n207 n208 n209 n210 n211 n212 n213 n214 n215 n216 n217 n218 n219 n220 n221 n222 n223 n224 n225 n226 n227 n228 n229 n230 n231 n232 n233 n234 n235 n236 n237 n238 n239 n240 n241 n242 n243 n244 n245 n246 n247 n248 n249 n250 n251 n252 n253 n254 n255 n256 n257 n258 n259 : Value) (s : St) (w' : World), s = (St.mk z0 z1 z2 z3 z4 z5 z6 z7).rounds K W 64 → s.ok → Qt w w' → Q .normal ⟨#[u0, u1, u2, u3, u4, .pointer (some ⟨GK, 0, none⟩), u6, u7, u8, u9, u10, u11, .slice (some ⟨gw, 0, none⟩) 64 cw, u13, u14, u15, u16, .int .u32 (s.a : Int), .int .u32 (s.b : Int), .int .u32 (s.c : Int), .int .u32 (s.d : Int), .int .u32 (s.e : Int), .int .u32 (s.f : Int), .int .u32 (s.g : Int), .int .u32 (s.h : Int), n25, n26, n27, u28, u29, u30, u31, u32, u33, u34, u35, u36, u37, u38, u39, u40, u41, u42, u43, u44, u45, u46, u47, u48, u49, u50, u51, u52, u53, u54, u55, u56, u57, u58, u59, u60, u61, u62, u63, u64, u65, u66, u67, u68, u69, u70, u71, u72, u73, u74, u75, u76, u77, u78, u79, u80, u81, u82, u83, u84, u85, u86, u87, u88, u89, u90, u91, u92, u93, u94, u95, u96, u97, u98, u99, u100, u101, u102, u103, u104, u105, u106, u107, u108, u109, u110, u111, u112, u113, u114, u115, u116, u117, u118, u119, u120, u121, u122, u123, u124, u125, u126, u127, u128, u129, u130, u131, u132, u133, u134, u135, u136, u137, u138, u139, u140, u141, u142, u143, u144, u145, u146, u147, u148, u149, u150, u151, u152, u153, u154, u155, u156, u157, u158, u159, u160, u161, u162, u163, u164, u165, u166, u167, u168, u169, u170, u171, u172, u173, u174, u175, u176, u177, u178, u179, u180, u181, u182, u183, u184, u185, u186, u187, u188, u189, u190, u191, u192, u193, u194, u195, n196, n197, n198, n199, n200, n201, n202, n203, n204, n205, n206, n207, n208, n209, n210, n211, n212, n213, n214, n215, n216, n217, n218, n219, n220, n221, n222, n223, n224, n225, n226, n227, n228, n229, n230, n231, n232, n233, n234, n235, n236, n237, n238, n239, n240, n241, n242, n243, n244, n245, n246, n247, n248, n249, n250, n251, n252, n253, n254, n255, n256, n257, n258, n259, u260, u261, u262, u263, u264, u265, u266, u267, u268, u269, u270, u271, u272, u273, u274, u275, u276, u277, u278, u279, u280, u281, u282, u283, u284, u285, u286, u287, u288, u289, u290, u291, u292, u293, u294, u295, u296, u297, u298, u299, u300, u301, u302, u303, u304], []⟩ w') :
    Code.wp Tryd.prog (headC ((Tryd.f22.body.bind (pickR 28)).getD .skip)) Q ⟨#[u0, u1, u2, u3, u4, .pointer (some ⟨GK, 0, none⟩), u6, u7, u8, u9, u10, u11, .slice (some ⟨gw, 0, none⟩) 64 cw, u13, u14, u15, u16, .int .u32 (z0 : Int), .int .u32 (z1 : Int), .int .u32 (z2 : Int), .int .u32 (z3 : Int), .int .u32 (z4 : Int), .int .u32 (z5 : Int), .int .u32 (z6 : Int), .int .u32 (z7 : Int), u25, u26, u27, u28, u29, u30, u31, u32, u33, u34, u35, u36, u37, u38, u39, u40, u41, u42, u43, u44, u45, u46, u47, u48, u49, u50, u51, u52, u53, u54, u55, u56, u57, u58, u59, u60, u61, u62, u63, u64, u65, u66, u67, u68, u69, u70, u71, u72, u73, u74, u75, u76, u77, u78, u79, u80, u81, u82, u83, u84, u85, u86, u87, u88, u89, u90, u91, u92, u93, u94, u95, u96, u97, u98, u99, u100, u101, u102, u103, u104, u105, u106, u107, u108, u109, u110, u111, u112, u113, u114, u115, u116, u117, u118, u119, u120, u121, u122, u123, u124, u125, u126, u127, u128, u129, u130, u131, u132, u133, u134, u135, u136, u137, u138, u139, u140, u141, u142, u143, u144, u145, u146, u147, u148, u149, u150, u151, u152, u153, u154, u155, u156, u157, u158, u159, u160, u161, u162, u163, u164, u165, u166, u167, u168, u169, u170, u171, u172, u173, u174, u175, u176, u177, u178, u179, u180, u181, u182, u183, u184, u185, u186, u187, u188, u189, u190, u191, u192, u193, u194, u195, u196, u197, u198, u199, u200, u201, u202, u203, u204, u205, u206, u207, u208, u209, u210, u211, u212, u213, u214, u215, u216, u217, u218, u219, u220, u221, u222, u223, u224, u225, u226, u227, u228, u229, u230, u231, u232, u233, u234, u235, u236, u237, u238, u239, u240, u241, u242, u243, u244, u245, u246, u247, u248, u249, u250, u251, u252, u253, u254, u255, u256, u257, u258, u259, u260, u261, u262, u263, u264, u265, u266, u267, u268, u269, u270, u271, u272, u273, u274, u275, u276, u277, u278, u279, u280, u281, u282, u283, u284, u285, u286, u287, u288, u289, u290, u291, u292, u293, u294, u295, u296, u297, u298, u299, u300, u301, u302, u303, u304], []⟩ w := by
  have HK2 := hid hK2
  have HW2 := hid hW2
  have HKC := hid hkc
  have HWC := hid hwc
  have HQ := hid hQ
  have HZ := hid hz
  clear hK2 hW2 hkc hwc hQ hz
  conv => arg 2; whnf
  go_wp2
  go_loopw [17, 18, 19, 20, 21, 22, 23, 24, 25] (fun x17 x18 x19 x20 x21 x22 x23 x24 x25 wr => ∃ n a b c d e f g h8 : Nat, n ≤ 64 ∧ x25 = .int .i64 (n : Int) ∧ x17 = .int .u32 (a : Int) ∧ x18 = .int .u32 (b : Int) ∧ x19 = .int .u32 (c : Int) ∧ x20 = .int .u32 (d : Int) ∧ x21 = .int .u32 (e : Int) ∧ x22 = .int .u32 (f : Int) ∧ x23 = .int .u32 (g : Int) ∧ x24 = .int .u32 (h8 : Int) ∧ Hid (St.mk a b c d e f g h8 = (St.mk z0 z1 z2 z3 z4 z5 z6 z7).rounds K W n) ∧ (St.mk a b c d e f g h8).ok ∧ Qt w wr) (fun _ _ _ _ _ _ _ _ x25 _ => 64 - (intOf x25).toNat)
  case atStart => exact ⟨0, z0, z1, z2, z3, z4, z5, z6, z7, by omega, rfl, rfl, rfl, rfl, rfl, rfl, rfl, rfl, rfl, hid rfl, HZ.out, Qt.refl _⟩
  case round =>
    obtain ⟨n, a, b, c, d, e, f, g, h8, hn, rfl, rfl, rfl, rfl, rfl, rfl, rfl, rfl, rfl, hst, hok, hq⟩ := hrel
    have HOK := hid hok
    obtain ⟨la, lb, lc, ld, le, lf, lg, lh⟩ := hok
    simp only at la lb lc ld le lf lg lh
    by_cases hlt : n < 64
    · have kc := cell_keep' (HKC.out n hlt) (hq.below _)
      have kl := getDlt HK2.out (by omega) n
      have wc := cell_keep' (HWC.out n hlt) (hq.below _)
      have wl := getDlt HW2.out (by omega) n
      have HN := hid (show (St.mk z0 z1 z2 z3 z4 z5 z6 z7).rounds K W (n + 1) = (St.mk a b c d e f g h8).step (K.getD n 0) (W.getD n 0) by rw [St.rounds, ← hst.out])
      generalize K.getD n 0 = kn at *
      generalize W.getD n 0 = wn at *
      have HQT := hid hq
      have R1 := sge_rule le
      have R2 := chr_rule le lf lg
      have R3 := sga_rule la
      have R4 := maj_rule la lb lc
      have b1 := sge_lt le
      have b2 := chf_lt (e := e) lf lg
      have b3 := sga_lt la
      have b4 := maj_lt (a := a) lb lc
      have i64 : (n : Int) < 64 := by omega
      clear hq
      go_upto_region 31 with (fail)
      go_quiet ((go_at_call 31; first | with_reducible exact quiet_same (turn6_walk e le _) | with_reducible exact quiet_same (turn11_walk e le _) | with_reducible exact quiet_same (turn25_walk e le _)))
      have HQ2 := hid (HQT.out.dN nq)
      generalize wr.drewN nq = w5 at *
      clear kc wc R1 R2 HQT
      go_wp2_with fail
      refine (turn2_walk a la _).mono ?_
      rintro e1 w' ⟨rfl, rfl⟩
      go_wp2_with fail
      refine (turn13_walk a la _).mono ?_
      rintro e1 w' ⟨rfl, rfl⟩
      go_wp2_with fail
      refine (turn22_walk a la _).mono ?_
      rintro e1 w' ⟨rfl, rfl⟩
      go_wp2
      go_roundw
      case rel =>
        refine ⟨n + 1, ((h8 + sge e + chf e f g + kn + wn) + (sga a + maj a b c)) % 4294967296, a, b, c, (d + (h8 + sge e + chf e f g + kn + wn)) % 4294967296, e, f, g, by omega, by go_num, congrArg (Value.int .u32) (by omega), rfl, rfl, rfl, congrArg (Value.int .u32) (by omega), rfl, rfl, rfl, hid ?_, ?_, HQ2.out⟩
        · rw [HN.out]; rfl
        · exact ⟨Nat.mod_lt _ (by omega), la, lb, lc, Nat.mod_lt _ (by omega), le, lf, lg⟩
      case measure => simp [intOf]; omega
    · have hn64 : n = 64 := by omega
      subst hn64
      have HQT := hid hq
      clear hq
      go_wp2
      refine HQ.out _ _ _ _ _ _ _ _ _ _ _ _ _ _ _ _ _ _ _ _ _ _ _ _ _ _ _ _ _ _ _ _ _ _ _ _ _ _ _ _ _ _ _ _ _ _ _ _ _ _ _ _ _ _ _ _ _ _ _ _ _ _ _ _ _ _ _ ⟨a, b, c, d, e, f, g, h8⟩ _ hst.out HOK.out HQT.out
end Go.Proofs.YtpncdgogefhjlaaDoor
