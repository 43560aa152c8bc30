/- Loop 7 of the reference's Hash: the state's sum. -/
import Derived.Test.YtpncdgogefhjlaaDoorHashRA
import Derived.Test.YtpncdgogefhjlaaDoorShaE
import Derived.Test.YtpncdgogefhjlaaDoorCatS
import Derived.Test.YtpncdgogefhjlaaDoorPick
import Derived.IntWalk
import Derived.Deep.Cut
import Derived.Deep.RegionHeld3
import Derived.Test.YtpncdgogefhjlaaDoorHpS
import Derived.Test.YtpncdgogefhjlaaDoorShaM
namespace Go.Proofs.YtpncdgogefhjlaaDoor
open Go.RowKit

set_option maxRecDepth 1000000 in
set_option maxHeartbeats 16000000 in
theorem hpD {u0 u1 u2 u3 u5 u6 u7 u8 u9 u10 u11 u12 u13 u14 u15 u16 u25 u26 u27 u28 u29 u30 u31 u32 u33 u34 u35 u36 u37 u38 u39 u40 u41 u42 u43 u44 u45 u46 u47 u48 u49 u50 u51 u52 u53 u54 u55 u56 u57 u58 u59 u60 u61 u62 u63 u64 u65 u66 u67 u68 u69 u70 u71 u72 u73 u74 u75 u76 u77 u78 u79 u80 u81 u82 u83 u84 u85 u86 u87 u88 u89 u90 u91 u92 u93 u94 u95 u96 u97 u98 u99 u100 u101 u102 u103 u104 u105 u106 u107 u108 u109 u110 u111 u112 u113 u114 u115 u116 u117 u118 u119 u120 u121 u122 u123 u124 u125 u126 u127 u128 u129 u130 u131 u132 u133 u134 u135 u136 u137 u138 u139 u140 u141 u142 u143 u144 u145 u146 u147 u148 u149 u150 u151 u152 u153 u154 u155 u156 u157 u158 u159 u160 u161 u162 u163 u164 u165 u166 u167 u168 u169 u170 u171 u172 u173 u174 u175 u176 u177 u178 u179 u180 u181 u182 u183 u184 u185 u186 u187 u188 u189 u190 u191 u192 u193 u194 u195 u196 u197 u198 u199 u200 u201 u202 u203 u204 u205 u206 u207 u208 u209 u210 u211 u212 u213 u214 u215 u216 u217 u218 u219 u220 u221 u222 u223 u224 u225 u226 u227 u228 u229 u230 u231 u232 u233 u234 u235 u236 u237 u238 u239 u240 u241 u242 u243 u244 u245 u246 u247 u248 u249 u250 u251 u252 u253 u254 u255 u256 u257 u258 u259 u260 u261 u262 u263 u264 u265 u266 u267 u268 u269 u270 u271 u272 u273 u274 u275 u276 u277 u278 u279 u280 u281 u282 u283 u284 u285 u286 u287 u288 u289 u290 u291 u292 u293 u294 u295 u296 u297 u298 u299 u300 u301 u302 u303 u304 : Value} {Q : Exit → Act → World → Prop} {GS z0 z1 z2 z3 z4 z5 z6 z7 : Nat} {S : List Nat} {cur : Array Value} {T : TypeId} {w : World} (hS8 : S.length = 8) (hG : w.heap[GS]? = some (.cells cur T (0, 0))) (hcur : cur.toList = nums .u32 S)
    (hQ : ∀ (n28 n29 n260 n261 n262 n263 n264 n265 n266 n267 n268 n269 n270 n271 n272 n273 n274 n275 n276 n277 n278 n279 n280 n281 : Value) (cur' : Array Value) (w' : World), w'.heap[GS]? = some (.cells cur' T (0, 0)) → cur'.toList = nums .u32 (addL S [z0, z1, z2, z3, z4, z5, z6, z7]) → Far GS w w' → Q .normal ⟨#[u0, u1, u2, u3, .pointer (some ⟨GS, 0, none⟩), u5, u6, u7, u8, u9, u10, u11, u12, u13, u14, u15, u16, .int .u32 (z0 : Int), .int .u32 (z1 : Int), .int .u32 (z2 : Int), .int .u32 (z3 : Int), .int .u32 (z4 : Int), .int .u32 (z5 : Int), .int .u32 (z6 : Int), .int .u32 (z7 : Int), u25, u26, u27, n28, n29, u30, u31, u32, u33, u34, u35, u36, u37, u38, u39, u40, u41, u42, u43, u44, u45, u46, u47, u48, u49, u50, u51, u52, u53, u54, u55, u56, u57, u58, u59, u60, u61, u62, u63, u64, u65, u66, u67, u68, u69, u70, u71, u72, u73, u74, u75, u76, u77, u78, u79, u80, u81, u82, u83, u84, u85, u86, u87, u88, u89, u90, u91, u92, u93, u94, u95, u96, u97, u98, u99, u100, u101, u102, u103, u104, u105, u106, u107, u108, u109, u110, u111, u112, u113, u114, u115, u116, u117, u118, u119, u120, u121, u122, u123, u124, u125, u126, u127, u128, u129, u130, u131, u132, u133, u134, u135, u136, u137, u138, u139, u140, u141, u142, u143, u144, u145, u146, u147, u148, u149, u150, u151, u152, u153, u154, u155, u156, u157, u158, u159, u160, u161, u162, u163, u164, u165, u166, u167, u168, u169, u170, u171, u172, u173, u174, u175, u176, u177, u178, u179, u180, u181, u182, u183, u184, u185, u186, u187, u188, u189, u190, u191, u192, u193, u194, u195, u196, u197, u198, u199, u200, u201, u202, u203, u204, u205, u206, u207, u208, u209, u210, u211, u212, u213, u214, u215, u216, u217, u218, u219, u220, u221, u222, u223, u224, u225, u226, u227, u228, u229, u230, u231, u232, u233, u234, u235, u236, u237, u238, u239, u240, u241, u242, u243, u244, u245, u246, u247, u248, u249, u250, u251, u252, u253, u254, u255, u256, u257, u258, u259, n260, n261, n262, n263, n264, n265, n266, n267, n268, n269, n270, n271, n272, n273, n274, n275, n276, n277, n278, n279, n280, n281, u282, u283, u284, u285, u286, u287, u288, u289, u290, u291, u292, u293, u294, u295, u296, u297, u298, u299, u300, u301, u302, u303, u304], []⟩ w') :
    Code.wp Tryd.prog ((Tryd.f22.body.bind (pickR 34)).getD .skip) Q ⟨#[u0, u1, u2, u3, .pointer (some ⟨GS, 0, none⟩), u5, u6, u7, u8, u9, u10, u11, u12, u13, u14, u15, u16, .int .u32 (z0 : Int), .int .u32 (z1 : Int), .int .u32 (z2 : Int), .int .u32 (z3 : Int), .int .u32 (z4 : Int), .int .u32 (z5 : Int), .int .u32 (z6 : Int), .int .u32 (z7 : Int), u25, u26, u27, u28, u29, u30, u31, u32, u33, u34, u35, u36, u37, u38, u39, u40, u41, u42, u43, u44, u45, u46, u47, u48, u49, u50, u51, u52, u53, u54, u55, u56, u57, u58, u59, u60, u61, u62, u63, u64, u65, u66, u67, u68, u69, u70, u71, u72, u73, u74, u75, u76, u77, u78, u79, u80, u81, u82, u83, u84, u85, u86, u87, u88, u89, u90, u91, u92, u93, u94, u95, u96, u97, u98, u99, u100, u101, u102, u103, u104, u105, u106, u107, u108, u109, u110, u111, u112, u113, u114, u115, u116, u117, u118, u119, u120, u121, u122, u123, u124, u125, u126, u127, u128, u129, u130, u131, u132, u133, u134, u135, u136, u137, u138, u139, u140, u141, u142, u143, u144, u145, u146, u147, u148, u149, u150, u151, u152, u153, u154, u155, u156, u157, u158, u159, u160, u161, u162, u163, u164, u165, u166, u167, u168, u169, u170, u171, u172, u173, u174, u175, u176, u177, u178, u179, u180, u181, u182, u183, u184, u185, u186, u187, u188, u189, u190, u191, u192, u193, u194, u195, u196, u197, u198, u199, u200, u201, u202, u203, u204, u205, u206, u207, u208, u209, u210, u211, u212, u213, u214, u215, u216, u217, u218, u219, u220, u221, u222, u223, u224, u225, u226, u227, u228, u229, u230, u231, u232, u233, u234, u235, u236, u237, u238, u239, u240, u241, u242, u243, u244, u245, u246, u247, u248, u249, u250, u251, u252, u253, u254, u255, u256, u257, u258, u259, u260, u261, u262, u263, u264, u265, u266, u267, u268, u269, u270, u271, u272, u273, u274, u275, u276, u277, u278, u279, u280, u281, u282, u283, u284, u285, u286, u287, u288, u289, u290, u291, u292, u293, u294, u295, u296, u297, u298, u299, u300, u301, u302, u303, u304], []⟩ w := by
  have HQ := hid hQ
  have HG := hid hG
  have HC := hid hcur
  have hGlt := (Array.getElem?_eq_some_iff.1 hG).1
  clear hQ hG hcur
  obtain ⟨Z, hZ⟩ : ∃ Z : List Nat, Z = [z0, z1, z2, z3, z4, z5, z6, z7] := ⟨_, rfl⟩
  have HZ := hid hZ
  have hX : ∀ m, m < 8 → (w.alloc (.cells #[.int .u32 (z0 : Int), .int .u32 (z1 : Int), .int .u32 (z2 : Int), .int .u32 (z3 : Int), .int .u32 (z4 : Int), .int .u32 (z5 : Int), .int .u32 (z6 : Int), .int .u32 (z7 : Int)] 28)).cell? ⟨w.heap.size, m, none⟩ = some (.int .u32 ((Z.getD m 0 : Nat) : Int)) := by
    intro m hm
    have h := cells_new w #[.int .u32 (z0 : Int), .int .u32 (z1 : Int), .int .u32 (z2 : Int), .int .u32 (z3 : Int), .int .u32 (z4 : Int), .int .u32 (z5 : Int), .int .u32 (z6 : Int), .int .u32 (z7 : Int)] 28 m (.int .u32 ((Z.getD m 0 : Nat) : Int)) (by
      have hcase : m = 0 ∨ m = 1 ∨ m = 2 ∨ m = 3 ∨ m = 4 ∨ m = 5 ∨ m = 6 ∨ m = 7 := by omega
      rw [hZ]
      rcases hcase with rfl | rfl | rfl | rfl | rfl | rfl | rfl | rfl <;> rfl)
    rwa [show (⟨w.heap.size, 0, none⟩ : Addr).add m = ⟨w.heap.size, m, none⟩ by unfold Addr.add; split <;> simp_all] at h
  have HX := hid hX
  have B1 := hid ((Below.refl w.heap.size w).alloc (Nat.le_refl _) (.cells #[.int .u32 (z0 : Int), .int .u32 (z1 : Int), .int .u32 (z2 : Int), .int .u32 (z3 : Int), .int .u32 (z4 : Int), .int .u32 (z5 : Int), .int .u32 (z6 : Int), .int .u32 (z7 : Int)] 28))
  have G1 := hid ((B1.out.block GS hGlt).trans HG.out)
  clear hX hZ
  conv => arg 2; whnf
  go_wp2
  generalize w.alloc (.cells #[.int .u32 (z0 : Int), .int .u32 (z1 : Int), .int .u32 (z2 : Int), .int .u32 (z3 : Int), .int .u32 (z4 : Int), .int .u32 (z5 : Int), .int .u32 (z6 : Int), .int .u32 (z7 : Int)] 28) = W1 at *
  go_loopw [270] (fun x0 wr => ∃ m : Nat, m ≤ 8 ∧ x0 = .int .i64 m ∧ Far GS W1 wr ∧ ∃ cur' : Array Value, wr.heap[GS]? = some (.cells cur' T (0, 0)) ∧ cur'.toList = nums .u32 (addU S Z m)) (fun x0 _ => 8 - (intOf x0).toNat)
  case atStart => exact ⟨0, by omega, rfl, Far.refl _ _, cur, G1.out, HC.out⟩
  case round =>
    obtain ⟨m, hm, rfl, hf, cur', hh, hcl⟩ := hrel
    clear G1
    have HF := hid hf
    have HH := hid hh
    have HCL := hid hcl
    by_cases hlt8 : m < 8
    · have hS' := addU_len S Z m
      have c1 : wr.cell? ⟨GS, m, none⟩ = some (.int .u32 (((addU S Z m).getD m 0 : Nat) : Int)) := by
        rw [cell_of_row _ GS m _ T (0, 0) hh, ← Array.getElem?_toList, hcl]
        exact nums_get .u32 (by omega)
      have c2 : wr.cell? ⟨w.heap.size, m, none⟩ = some (.int .u32 ((Z.getD m 0 : Nat) : Int)) := by
        rw [World.cell?_of_block (hf.block _ (World.block_lt_of_cell? W1 _ (HX.out m hlt8)) (by simp; omega))]; exact HX.out m hlt8
      rw [addU_get S Z m m (Nat.le_refl _)] at c1
      have hz := frozen_of_row _ GS m _ T hh
      have ST := hid (show ∀ V : Nat, V = (S.getD m 0 + Z.getD m 0) % 4294967296 → Far GS W1 (wr.setCell ⟨GS, m, none⟩ (.int .u32 (V : Int))) ∧ ∃ cur'' : Array Value, (wr.setCell ⟨GS, m, none⟩ (.int .u32 (V : Int))).heap[GS]? = some (.cells cur'' T (0, 0)) ∧ cur''.toList = nums .u32 (addU S Z (m + 1)) from by
        intro V hV
        refine ⟨hf.trans (Far.set _), _, heap_setCell_same wr GS m _ T _ hh, ?_⟩
        rw [Array.toList_setIfInBounds, hcl, addU, hV]; simp [nums, List.map_set])
      generalize S.getD m 0 = s0 at *
      generalize Z.getD m 0 = y0 at *
      have i8 : (m : Int) < 8 := by omega
      have HV := hid (ST.out _ rfl)
      have HM := hid (addM s0 y0)
      clear hf hh hcl ST hS'
      go_wp2
      go_roundw
      case rel =>
        rw [HM.out]
        obtain ⟨h1, cur'', h2, h3⟩ := HV.out
        exact ⟨m + 1, by omega, by go_num, h1, cur'', h2, h3⟩
      case measure => simp only [intOf]; omega
    · have hm8 : m = 8 := by omega
      subst hm8
      have F1 := hid (show cur'.toList = nums .u32 (addL S [z0, z1, z2, z3, z4, z5, z6, z7]) by
        rw [hcl, HZ.out, addU_eq hS8 rfl])
      have F2 := hid (show Far GS w wr from (Far.of B1.out).trans hf)
      clear hf hh hcl
      go_wp2
      refine HQ.out _ _ _ _ _ _ _ _ _ _ _ _ _ _ _ _ _ _ _ _ _ _ _ _ _ _ HH.out F1.out F2.out
end Go.Proofs.YtpncdgogefhjlaaDoor
