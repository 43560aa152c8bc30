/- Loop 2 of the reference's Hash: the length's bytes. -/
import Derived.Test.YtpncdgogefhjlaaDoorHashRA
import Derived.Test.YtpncdgogefhjlaaDoorShaE
import Derived.Test.YtpncdgogefhjlaaDoorCatS
import Derived.Test.YtpncdgogefhjlaaDoorPick
import Derived.IntWalk
import Derived.Deep.Cut
import Derived.Deep.RegionHeld3
import Derived.Test.YtpncdgogefhjlaaDoorHpS
namespace Go.Proofs.YtpncdgogefhjlaaDoor
open Go.RowKit

set_option maxRecDepth 1000000 in
set_option maxHeartbeats 16000000 in
theorem hpI {u0 u1 u2 u3 u4 u5 u6 u7 u10 u11 u12 u13 u14 u15 u16 u17 u18 u19 u20 u21 u22 u23 u24 u25 u26 u27 u28 u29 u30 u31 u32 u33 u34 u35 u36 u37 u38 u39 u40 u41 u42 u43 u44 u45 u46 u47 u48 u49 u50 u51 u52 u53 u54 u55 u56 u57 u58 u59 u60 u61 u62 u63 u64 u65 u66 u67 u68 u69 u70 u71 u72 u73 u74 u75 u76 u77 u78 u79 u80 u81 u82 u83 u84 u85 u86 u87 u88 u89 u90 u91 u92 u93 u94 u95 u96 u97 u98 u99 u100 u101 u102 u103 u104 u105 u106 u107 u108 u109 u110 u111 u112 u113 u114 u115 u116 u117 u118 u119 u120 u121 u122 u123 u124 u125 u126 u127 u128 u129 u130 u131 u132 u133 u134 u135 u136 u137 u138 u139 u140 u141 u142 u143 u144 u145 u146 u147 u148 u149 u150 u151 u152 u153 u154 u155 u156 u157 u158 u159 u160 u161 u162 u163 u164 u165 u166 u167 u168 u169 u170 u171 u172 u173 u174 u175 u176 u177 u178 u179 u180 u181 u182 u183 u184 u185 u186 u187 u188 u189 u190 u191 u192 u193 u194 u195 u196 u197 u198 u199 u200 u201 u202 u203 u204 u205 u206 u207 u208 u209 u210 u211 u212 u213 u214 u215 u216 u217 u218 u219 u220 u221 u222 u223 u224 u225 u226 u227 u228 u229 u230 u231 u232 u233 u234 u235 u236 u237 u238 u239 u240 u241 u242 u243 u244 u245 u246 u247 u248 u249 u250 u251 u252 u253 u254 u255 u256 u257 u258 u259 u260 u261 u262 u263 u264 u265 u266 u267 u268 u269 u270 u271 u272 u273 u274 u275 u276 u277 u278 u279 u280 u281 u282 u283 u284 u285 u286 u287 u288 u289 u290 u291 u292 u293 u294 u295 u296 u297 u298 u299 u300 u301 u302 u303 u304 : Value} {Q : Exit → Act → World → Prop} {N8 : Nat} {v9 : Value} {w : World} (hN : N8 < 18446744073709551616) (hS : SlV .u8 w v9 [])
    (hQ : ∀ (n8 n10 n52 n53 n54 n55 n56 n57 n58 n59 n60 n61 n62 n63 : Value) (v : Value) (w' : World), SlV .u8 w' v (beN 8 N8) → Below w.heap.size w w' → Q .normal ⟨#[u0, u1, u2, u3, u4, u5, u6, u7, n8, v, n10, u11, u12, u13, u14, u15, u16, u17, u18, u19, u20, u21, u22, u23, u24, u25, u26, u27, u28, u29, u30, u31, u32, u33, u34, u35, u36, u37, u38, u39, u40, u41, u42, u43, u44, u45, u46, u47, u48, u49, u50, u51, n52, n53, n54, n55, n56, n57, n58, n59, n60, n61, n62, n63, u64, u65, u66, u67, u68, u69, u70, u71, u72, u73, u74, u75, u76, u77, u78, u79, u80, u81, u82, u83, u84, u85, u86, u87, u88, u89, u90, u91, u92, u93, u94, u95, u96, u97, u98, u99, u100, u101, u102, u103, u104, u105, u106, u107, u108, u109, u110, u111, u112, u113, u114, u115, u116, u117, u118, u119, u120, u121, u122, u123, u124, u125, u126, u127, u128, u129, u130, u131, u132, u133, u134, u135, u136, u137, u138, u139, u140, u141, u142, u143, u144, u145, u146, u147, u148, u149, u150, u151, u152, u153, u154, u155, u156, u157, u158, u159, u160, u161, u162, u163, u164, u165, u166, u167, u168, u169, u170, u171, u172, u173, u174, u175, u176, u177, u178, u179, u180, u181, u182, u183, u184, u185, u186, u187, u188, u189, u190, u191, u192, u193, u194, u195, u196, u197, u198, u199, u200, u201, u202, u203, u204, u205, u206, u207, u208, u209, u210, u211, u212, u213, u214, u215, u216, u217, u218, u219, u220, u221, u222, u223, u224, u225, u226, u227, u228, u229, u230, u231, u232, u233, u234, u235, u236, u237, u238, u239, u240, u241, u242, u243, u244, u245, u246, u247, u248, u249, u250, u251, u252, u253, u254, u255, u256, u257, u258, u259, u260, u261, u262, u263, u264, u265, u266, u267, u268, u269, u270, u271, u272, u273, u274, u275, u276, u277, u278, u279, u280, u281, u282, u283, u284, u285, u286, u287, u288, u289, u290, u291, u292, u293, u294, u295, u296, u297, u298, u299, u300, u301, u302, u303, u304], []⟩ w') :
    Code.wp Tryd.prog (headC ((Tryd.f22.body.bind (pickR 7)).getD .skip)) Q ⟨#[u0, u1, u2, u3, u4, u5, u6, u7, .int .u64 (N8 : Int), v9, u10, u11, u12, u13, u14, u15, u16, u17, u18, u19, u20, u21, u22, u23, u24, u25, u26, u27, u28, u29, u30, u31, u32, u33, u34, u35, u36, u37, u38, u39, u40, u41, u42, u43, u44, u45, u46, u47, u48, u49, u50, u51, u52, u53, u54, u55, u56, u57, u58, u59, u60, u61, u62, u63, u64, u65, u66, u67, u68, u69, u70, u71, u72, u73, u74, u75, u76, u77, u78, u79, u80, u81, u82, u83, u84, u85, u86, u87, u88, u89, u90, u91, u92, u93, u94, u95, u96, u97, u98, u99, u100, u101, u102, u103, u104, u105, u106, u107, u108, u109, u110, u111, u112, u113, u114, u115, u116, u117, u118, u119, u120, u121, u122, u123, u124, u125, u126, u127, u128, u129, u130, u131, u132, u133, u134, u135, u136, u137, u138, u139, u140, u141, u142, u143, u144, u145, u146, u147, u148, u149, u150, u151, u152, u153, u154, u155, u156, u157, u158, u159, u160, u161, u162, u163, u164, u165, u166, u167, u168, u169, u170, u171, u172, u173, u174, u175, u176, u177, u178, u179, u180, u181, u182, u183, u184, u185, u186, u187, u188, u189, u190, u191, u192, u193, u194, u195, u196, u197, u198, u199, u200, u201, u202, u203, u204, u205, u206, u207, u208, u209, u210, u211, u212, u213, u214, u215, u216, u217, u218, u219, u220, u221, u222, u223, u224, u225, u226, u227, u228, u229, u230, u231, u232, u233, u234, u235, u236, u237, u238, u239, u240, u241, u242, u243, u244, u245, u246, u247, u248, u249, u250, u251, u252, u253, u254, u255, u256, u257, u258, u259, u260, u261, u262, u263, u264, u265, u266, u267, u268, u269, u270, u271, u272, u273, u274, u275, u276, u277, u278, u279, u280, u281, u282, u283, u284, u285, u286, u287, u288, u289, u290, u291, u292, u293, u294, u295, u296, u297, u298, u299, u300, u301, u302, u303, u304], []⟩ w := by
  have HQ := hid hQ
  have HS := hid hS
  clear hQ hS
  conv => arg 2; whnf
  go_wp2
  go_loopw [8, 9, 10] (fun x8 x9 x10 wr => ∃ (i q : Nat) (v : Value), i ≤ 8 ∧ x10 = .int .i64 i ∧ x8 = .int .u64 (q : Int) ∧ q < 18446744073709551616 ∧ v = x9 ∧ Hid (q = N8 / 256 ^ i) ∧ SlV .u8 wr v (beN i N8) ∧ Below w.heap.size w wr) (fun _ _ x10 _ => 8 - (intOf x10).toNat)
  case atStart => exact ⟨0, N8, _, by omega, rfl, rfl, hN, rfl, hid (by simp), HS.out, Below.refl _ _⟩
  case round =>
    obtain ⟨i, q, v, hi, rfl, rfl, hq64, rfl, hq, ⟨a9, c9, rfl, s9⟩, hb9⟩ := hrel
    clear HS
    by_cases hlt : i < 8
    · obtain ⟨d, hd⟩ : ∃ d : Nat, d = q % 256 := ⟨_, rfl⟩
      obtain ⟨q2, hq2⟩ : ∃ q2 : Nat, q2 = q / 256 := ⟨_, rfl⟩
      have ed : (q : Int) % 256 = (d : Int) := by omega
      have eq2 : (q : Int) / 256 = (q2 : Int) := by omega
      have hd256 : d < 256 := by omega
      have hq264 : q2 < 18446744073709551616 := by omega
      have HQ2 := hid (show q2 = N8 / 256 ^ (i + 1) by rw [hq2, hq.out, Nat.pow_succ, Nat.div_div_eq_div_mul])
      have HB2 := hid (show beN (i + 1) N8 = d :: beN i N8 by rw [beN, hd, hq.out])
      have O1 := hid (own_lit .u8 wr #[.int .u8 (d : Int)] 5 [d] (n := 1) (B := wr.heap.size) rfl rfl (Nat.le_refl _) (by decide))
      have bb := (Below.refl wr.heap.size wr).alloc (Nat.le_refl _) (.cells #[.int .u8 (d : Int)] 5)
      have S2 := hid (s9.below bb)
      have BB := hid (hb9.trans (bb.mono hb9.size))
      have HBs := hid hb9.size
      have hl9 := beN_len i N8
      clear hd hq2 s9 hb9 bb
      go_wp2_with (at_builtin; refine wpList_cat rfl _ _ 22 rfl tyBs wr.heap.size O1.out rfl rfl S2.out (nums_oneCell _ _) ?c4 ?c5 ?c6 ?_)
      case c4 => omega
      case c5 => unfold maxLen; omega
      case c6 => simp
      intro v7 w7 own7 b7 hs7 _
      rw [nums_append] at own7
      have OW := hid (show w7.ownsRow wr.heap.size 5 1 v7 (beN (i + 1) N8).length (nums .u8 (beN (i + 1) N8)) by rw [HB2.out, List.length_cons, hl9, Nat.add_comm]; exact own7)
      have B7 := hid (BB.out.trans (b7.mono HBs.out))
      clear own7 b7 hs7 hl9
      go_wp2
      go_roundw
      case rel => exact ⟨i + 1, q2, v7, by omega, by go_num, rfl, hq264, rfl, HQ2.out |> hid, SlV.of_owns OW.out, B7.out⟩
      case measure => simp [intOf]; omega
    · have hge : 8 ≤ i := by omega
      have hi8 : i = 8 := by omega
      have HB := hid hb9
      have S9 := hid (show SlV .u8 wr (.slice a9 (beN i N8).length c9) (beN 8 N8) by rw [← hi8]; exact s9.toV)
      clear s9 hb9 hi8
      go_wp2
      refine HQ.out _ _ _ _ _ _ _ _ _ _ _ _ _ _ _ _ S9.out HB.out
end Go.Proofs.YtpncdgogefhjlaaDoor
