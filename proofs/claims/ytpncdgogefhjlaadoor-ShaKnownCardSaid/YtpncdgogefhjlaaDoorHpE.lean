/- Loops 8 and 9 of the reference's Hash: the bytes. -/
import Derived.Test.YtpncdgogefhjlaaDoorHashRA
import Derived.Test.YtpncdgogefhjlaaDoorShaE
import Derived.Test.YtpncdgogefhjlaaDoorCatS
import Derived.Test.YtpncdgogefhjlaaDoorPick
import Derived.IntWalk
import Derived.Deep.Cut
import Derived.Deep.RegionHeld3
import Derived.Test.YtpncdgogefhjlaaDoorHpS
import Derived.Test.YtpncdgogefhjlaaDoorShaM
namespace Go.Proofs.YtpncdgogefhjlaaDoor
open Go.RowKit

def outB (O S : List Nat) : Nat → List Nat
  | 0 => O
  | i + 1 => outS (outB O S i) i (S.getD i 0) 4
theorem outB_len (O S : List Nat) (i : Nat) : (outB O S i).length = O.length := by
  induction i with
  | zero => rfl
  | succ i ih => simp [outB, outS_len, ih]
theorem outB_eq {S : List Nat} (h : S.length = 8) : outB (List.replicate 32 0) S 8 = S.flatMap bytes4 := by
  match S, h with
  | [a, b, c, d, e, f, g, k], _ =>
    have hr : (List.replicate 32 0 : List Nat) = [0, 0, 0, 0, 0, 0, 0, 0, 0, 0, 0, 0, 0, 0, 0, 0, 0, 0, 0, 0, 0, 0, 0, 0, 0, 0, 0, 0, 0, 0, 0, 0] := rfl
    rw [hr]
    simp [outB, outS, bytes4]

set_option maxRecDepth 1000000 in
set_option maxHeartbeats 16000000 in
theorem hpE {u0 u1 u2 u3 u5 u6 u7 u8 u9 u10 u11 u12 u13 u14 u15 u16 u17 u18 u19 u20 u21 u22 u23 u24 u25 u26 u27 u28 u29 u31 u32 u33 u34 u35 u36 u37 u38 u39 u40 u41 u42 u43 u44 u45 u46 u47 u48 u49 u50 u51 u52 u53 u54 u55 u56 u57 u58 u59 u60 u61 u62 u63 u64 u65 u66 u67 u68 u69 u70 u71 u72 u73 u74 u75 u76 u77 u78 u79 u80 u81 u82 u83 u84 u85 u86 u87 u88 u89 u90 u91 u92 u93 u94 u95 u96 u97 u98 u99 u100 u101 u102 u103 u104 u105 u106 u107 u108 u109 u110 u111 u112 u113 u114 u115 u116 u117 u118 u119 u120 u121 u122 u123 u124 u125 u126 u127 u128 u129 u130 u131 u132 u133 u134 u135 u136 u137 u138 u139 u140 u141 u142 u143 u144 u145 u146 u147 u148 u149 u150 u151 u152 u153 u154 u155 u156 u157 u158 u159 u160 u161 u162 u163 u164 u165 u166 u167 u168 u169 u170 u171 u172 u173 u174 u175 u176 u177 u178 u179 u180 u181 u182 u183 u184 u185 u186 u187 u188 u189 u190 u191 u192 u193 u194 u195 u196 u197 u198 u199 u200 u201 u202 u203 u204 u205 u206 u207 u208 u209 u210 u211 u212 u213 u214 u215 u216 u217 u218 u219 u220 u221 u222 u223 u224 u225 u226 u227 u228 u229 u230 u231 u232 u233 u234 u235 u236 u237 u238 u239 u240 u241 u242 u243 u244 u245 u246 u247 u248 u249 u250 u251 u252 u253 u254 u255 u256 u257 u258 u259 u260 u261 u262 u263 u264 u265 u266 u267 u268 u269 u270 u271 u272 u273 u274 u275 u276 u277 u278 u279 u280 u281 u282 u283 u284 u285 u286 u287 u288 u289 u290 u291 u292 u293 u294 u295 u296 u297 u298 u299 u300 u301 u302 u303 u304 : Value} {Q : Exit → Act → World → Prop} {GS GO : Nat} {S : List Nat} {cur co : Array Value} {T TO : TypeId} {w : World} (hS8 : S.length = 8) (hS2 : ∀ d ∈ S, d < 4294967296) (hG : w.heap[GS]? = some (.cells cur T (0, 0))) (hcur : cur.toList = nums .u32 S) (hO : w.heap[GO]? = some (.cells co TO (0, 0))) (hco : co.toList = nums .u8 (List.replicate 32 0)) (hne : GS ≠ GO)
    (hQ : ∀ (n31 n32 n33 n283 n284 n285 n286 n287 n288 n289 n290 n291 n292 n293 n294 n295 n296 n297 n298 n299 n300 n301 n302 n303 : Value) (co' : Array Value) (w' : World), w'.heap[GO]? = some (.cells co' TO (0, 0)) → co'.toList = nums .u8 (S.flatMap bytes4) → Far GO w w' → Q .normal ⟨#[u0, u1, u2, u3, .pointer (some ⟨GS, 0, none⟩), u5, u6, u7, u8, u9, u10, u11, u12, u13, u14, u15, u16, u17, u18, u19, u20, u21, u22, u23, u24, u25, u26, u27, u28, u29, .pointer (some ⟨GO, 0, none⟩), n31, n32, n33, u34, u35, u36, u37, u38, u39, u40, u41, u42, u43, u44, u45, u46, u47, u48, u49, u50, u51, u52, u53, u54, u55, u56, u57, u58, u59, u60, u61, u62, u63, u64, u65, u66, u67, u68, u69, u70, u71, u72, u73, u74, u75, u76, u77, u78, u79, u80, u81, u82, u83, u84, u85, u86, u87, u88, u89, u90, u91, u92, u93, u94, u95, u96, u97, u98, u99, u100, u101, u102, u103, u104, u105, u106, u107, u108, u109, u110, u111, u112, u113, u114, u115, u116, u117, u118, u119, u120, u121, u122, u123, u124, u125, u126, u127, u128, u129, u130, u131, u132, u133, u134, u135, u136, u137, u138, u139, u140, u141, u142, u143, u144, u145, u146, u147, u148, u149, u150, u151, u152, u153, u154, u155, u156, u157, u158, u159, u160, u161, u162, u163, u164, u165, u166, u167, u168, u169, u170, u171, u172, u173, u174, u175, u176, u177, u178, u179, u180, u181, u182, u183, u184, u185, u186, u187, u188, u189, u190, u191, u192, u193, u194, u195, u196, u197, u198, u199, u200, u201, u202, u203, u204, u205, u206, u207, u208, u209, u210, u211, u212, u213, u214, u215, u216, u217, u218, u219, u220, u221, u222, u223, u224, u225, u226, u227, u228, u229, u230, u231, u232, u233, u234, u235, u236, u237, u238, u239, u240, u241, u242, u243, u244, u245, u246, u247, u248, u249, u250, u251, u252, u253, u254, u255, u256, u257, u258, u259, u260, u261, u262, u263, u264, u265, u266, u267, u268, u269, u270, u271, u272, u273, u274, u275, u276, u277, u278, u279, u280, u281, u282, n283, n284, n285, n286, n287, n288, n289, n290, n291, n292, n293, n294, n295, n296, n297, n298, n299, n300, n301, n302, n303, u304], []⟩ w') :
    Code.wp Tryd.prog (headC ((Tryd.f22.body.bind (pickR 40)).getD .skip)) Q ⟨#[u0, u1, u2, u3, .pointer (some ⟨GS, 0, none⟩), u5, u6, u7, u8, u9, u10, u11, u12, u13, u14, u15, u16, u17, u18, u19, u20, u21, u22, u23, u24, u25, u26, u27, u28, u29, .pointer (some ⟨GO, 0, none⟩), u31, u32, u33, u34, u35, u36, u37, u38, u39, u40, u41, u42, u43, u44, u45, u46, u47, u48, u49, u50, u51, u52, u53, u54, u55, u56, u57, u58, u59, u60, u61, u62, u63, u64, u65, u66, u67, u68, u69, u70, u71, u72, u73, u74, u75, u76, u77, u78, u79, u80, u81, u82, u83, u84, u85, u86, u87, u88, u89, u90, u91, u92, u93, u94, u95, u96, u97, u98, u99, u100, u101, u102, u103, u104, u105, u106, u107, u108, u109, u110, u111, u112, u113, u114, u115, u116, u117, u118, u119, u120, u121, u122, u123, u124, u125, u126, u127, u128, u129, u130, u131, u132, u133, u134, u135, u136, u137, u138, u139, u140, u141, u142, u143, u144, u145, u146, u147, u148, u149, u150, u151, u152, u153, u154, u155, u156, u157, u158, u159, u160, u161, u162, u163, u164, u165, u166, u167, u168, u169, u170, u171, u172, u173, u174, u175, u176, u177, u178, u179, u180, u181, u182, u183, u184, u185, u186, u187, u188, u189, u190, u191, u192, u193, u194, u195, u196, u197, u198, u199, u200, u201, u202, u203, u204, u205, u206, u207, u208, u209, u210, u211, u212, u213, u214, u215, u216, u217, u218, u219, u220, u221, u222, u223, u224, u225, u226, u227, u228, u229, u230, u231, u232, u233, u234, u235, u236, u237, u238, u239, u240, u241, u242, u243, u244, u245, u246, u247, u248, u249, u250, u251, u252, u253, u254, u255, u256, u257, u258, u259, u260, u261, u262, u263, u264, u265, u266, u267, u268, u269, u270, u271, u272, u273, u274, u275, u276, u277, u278, u279, u280, u281, u282, u283, u284, u285, u286, u287, u288, u289, u290, u291, u292, u293, u294, u295, u296, u297, u298, u299, u300, u301, u302, u303, u304], []⟩ w := by
  have HQ := hid hQ
  have HS2 := hid hS2
  have HX : Hid (∀ m, m < 8 → w.cell? ⟨GS, m, none⟩ = some (.int .u32 ((S.getD m 0 : Nat) : Int))) := hid (by
    intro m hm
    rw [cell_of_row _ GS m _ T (0, 0) hG, ← Array.getElem?_toList, hcur]
    exact nums_get .u32 (by omega))
  have HO := hid hO
  have HCO := hid hco
  have hRL : (List.replicate 32 0 : List Nat).length = 32 := by simp
  have HEQ := hid (outB_eq hS8)
  obtain ⟨O, hOe⟩ : ∃ O : List Nat, O = List.replicate 32 0 := ⟨_, rfl⟩
  rw [← hOe] at HCO hRL HEQ
  clear hQ hS2 hG hcur hO hco hOe
  conv => arg 2; whnf
  go_wp2
  go_loopw [31] (fun x31 wr => ∃ i : Nat, i ≤ 8 ∧ x31 = .int .i64 i ∧ Far GO w wr ∧ ∃ co' : Array Value, wr.heap[GO]? = some (.cells co' TO (0, 0)) ∧ co'.toList = nums .u8 (outB O S i)) (fun x31 _ => 8 - (intOf x31).toNat)
  case atStart => exact ⟨0, by omega, rfl, Far.refl _ _, co, HO.out, HCO.out⟩
  case round =>
    obtain ⟨i, hi, rfl, hf, co1, hh, hcl⟩ := hrel
    clear HO HCO
    have HF := hid hf
    have HH := hid hh
    have HCL := hid hcl
    by_cases hlt8 : i < 8
    · have c1 : wr.cell? ⟨GS, i, none⟩ = some (.int .u32 ((S.getD i 0 : Nat) : Int)) := by
        rw [World.cell?_of_block (hf.block _ (World.block_lt_of_cell? w _ (HX.out i hlt8)) (by simp; omega))]; exact HX.out i hlt8
      have hx := getDlt HS2.out (by omega) i
      obtain ⟨x, hxe⟩ : ∃ x, x = S.getD i 0 := ⟨_, rfl⟩
      rw [← hxe] at c1 hx
      have HXE := hid hxe
      have i8 : (i : Int) < 8 := by omega
      clear hf hh hcl hxe
      go_wp2
      generalize wr = W2 at *
      go_loopw [32, 33] (fun x32 x33 wr => ∃ (t q : Nat) (j : Int), Hid (j = 3 - (t : Int)) ∧ t ≤ 4 ∧ Hid (q = x / 256 ^ t) ∧ q < 4294967296 ∧ x33 = .int .i64 j ∧ x32 = .int .u32 (q : Int) ∧ Far GO W2 wr ∧ ∃ co' : Array Value, wr.heap[GO]? = some (.cells co' TO (0, 0)) ∧ co'.toList = nums .u8 (outS (outB O S i) i x t)) (fun _ x33 _ => (intOf x33 + 1).toNat)
      case atStart => exact ⟨0, x, 3, hid rfl, by omega, hid (by simp), hx, rfl, rfl, Far.refl _ _, co1, HH.out, HCL.out⟩
      case round =>
        obtain ⟨t, q, j, hj, ht, hq, hq2, rfl, rfl, hf, co2, hh, hcl⟩ := hrel
        have hj' := hj.out
        by_cases hj0 : 0 ≤ j
        · obtain ⟨d, rfl⟩ : ∃ d : Nat, j = (d : Int) := ⟨j.toNat, by omega⟩
          have hdt : d + t = 3 := by omega
          obtain ⟨ix, hix⟩ : ∃ ix : Nat, ix = 4 * i + d := ⟨_, rfl⟩
          obtain ⟨i4, hi4⟩ : ∃ i4 : Nat, i4 = 4 * i := ⟨_, rfl⟩
          have e4 : 4 * (i : Int) = (i4 : Int) := by omega
          have ei : (i4 : Int) + (d : Int) = (ix : Int) := by omega
          have hix32 : (ix : Int) < 32 := by omega
          obtain ⟨dd, hdd⟩ : ∃ dd : Nat, dd = q % 256 := ⟨_, rfl⟩
          obtain ⟨q3, hq3⟩ : ∃ q3 : Nat, q3 = q / 256 := ⟨_, rfl⟩
          have ed : (q : Int) % 256 = (dd : Int) := by omega
          have eq2 : (q : Int) / 256 = (q3 : Int) := by omega
          have hd256 : dd < 256 := by omega
          have hq3b : q3 < 4294967296 := by omega
          have HQ3 := hid (show q3 = x / 256 ^ (t + 1) by rw [hq3, hq.out, Nat.pow_succ, Nat.div_div_eq_div_mul])
          have hol : (outS (outB O S i) i x t).length = 32 := by rw [outS_len, outB_len, hRL]
          have c3 : wr.cell? ⟨GO, ix, none⟩ = some (.int .u8 (((outS (outB O S i) i x t).getD ix 0 : Nat) : Int)) := by
            rw [cell_of_row _ GO ix _ TO (0, 0) hh, ← Array.getElem?_toList, hcl]
            exact nums_get .u8 (by omega)
          have hz := frozen_of_row _ GO ix _ TO hh
          have ST := hid (show Far GO W2 (wr.setCell ⟨GO, ix, none⟩ (.int .u8 (dd : Int))) ∧ ∃ co'' : Array Value, (wr.setCell ⟨GO, ix, none⟩ (.int .u8 (dd : Int))).heap[GO]? = some (.cells co'' TO (0, 0)) ∧ co''.toList = nums .u8 (outS (outB O S i) i x (t + 1)) from by
            refine ⟨hf.trans (Far.set _), _, heap_setCell_same wr GO ix _ TO _ hh, ?_⟩
            rw [Array.toList_setIfInBounds, hcl, outS, hdd, hq.out, hix, show 3 - t = d by omega]; simp [nums, List.map_set])
          have HDT := hid hdt
          clear hf hh hcl hix hi4 hdd hq3 hol hj' hdt
          generalize (outS (outB O S i) i x t).getD ix 0 = old at *
          go_wp2
          go_roundw
          case rel =>
            obtain ⟨h1, co'', h2, h3⟩ := ST.out
            exact ⟨t + 1, q3, _, hid (by have := HDT.out; omega), by have := HDT.out; omega, HQ3, hq3b, rfl, rfl, h1, co'', h2, h3⟩
          case measure => simp only [intOf]; omega
        · have ht4 : t = 4 := by omega
          subst ht4
          have hjn : j = -1 := by omega
          subst hjn
          have F1 := hid (HF.out.trans hf)
          have F2 := hid hh
          have F3 := hid (show co2.toList = nums .u8 (outB O S (i + 1)) by rw [hcl, outB, HXE.out])
          clear hf hh hcl hj'
          go_wp2
          go_roundw
          case rel => exact ⟨i + 1, by omega, by go_num, F1.out, co2, F2.out, F3.out⟩
          case measure => simp only [intOf]; omega
    · have hi8 : i = 8 := by omega
      subst hi8
      rw [HEQ.out] at hcl
      have F3 := hid hcl
      clear hf hh hcl
      go_wp2
      refine HQ.out _ _ _ _ _ _ _ _ _ _ _ _ _ _ _ _ _ _ _ _ _ _ _ _ _ _ HH.out F3.out HF.out
end Go.Proofs.YtpncdgogefhjlaaDoor
