/- Loop 1 of the reference's Hash: the noughts. -/
import Derived.Test.YtpncdgogefhjlaaDoorHashRA
import Derived.Test.YtpncdgogefhjlaaDoorShaE
import Derived.Test.YtpncdgogefhjlaaDoorCatS
import Derived.Test.YtpncdgogefhjlaaDoorPick
import Derived.IntWalk
import Derived.Deep.Cut
import Derived.Deep.RegionHeld3
import Derived.Test.YtpncdgogefhjlaaDoorHpS
namespace Go.Proofs.YtpncdgogefhjlaaDoor
open Go.RowKit

def lenS : Value → Nat
  | .slice _ l _ => l
  | _ => 0
@[simp] theorem lenS_slice (a : Option Addr) (l c : Nat) : lenS (.slice a l c) = l := rfl
set_option maxRecDepth 1000000 in
set_option maxHeartbeats 16000000 in
theorem hpH {u0 u1 u2 u3 u4 u5 u6 u8 u9 u10 u11 u12 u13 u14 u15 u16 u17 u18 u19 u20 u21 u22 u23 u24 u25 u26 u27 u28 u29 u30 u31 u32 u33 u34 u35 u36 u37 u38 u39 u40 u41 u42 u43 u44 u45 u46 u47 u48 u49 u50 u51 u52 u53 u54 u55 u56 u57 u58 u59 u60 u61 u62 u63 u64 u65 u66 u67 u68 u69 u70 u71 u72 u73 u74 u75 u76 u77 u78 u79 u80 u81 u82 u83 u84 u85 u86 u87 u88 u89 u90 u91 u92 u93 u94 u95 u96 u97 u98 u99 u100 u101 u102 u103 u104 u105 u106 u107 u108 u109 u110 u111 u112 u113 u114 u115 u116 u117 u118 u119 u120 u121 u122 u123 u124 u125 u126 u127 u128 u129 u130 u131 u132 u133 u134 u135 u136 u137 u138 u139 u140 u141 u142 u143 u144 u145 u146 u147 u148 u149 u150 u151 u152 u153 u154 u155 u156 u157 u158 u159 u160 u161 u162 u163 u164 u165 u166 u167 u168 u169 u170 u171 u172 u173 u174 u175 u176 u177 u178 u179 u180 u181 u182 u183 u184 u185 u186 u187 u188 u189 u190 u191 u192 u193 u194 u195 u196 u197 u198 u199 u200 u201 u202 u203 u204 u205 u206 u207 u208 u209 u210 u211 u212 u213 u214 u215 u216 u217 u218 u219 u220 u221 u222 u223 u224 u225 u226 u227 u228 u229 u230 u231 u232 u233 u234 u235 u236 u237 u238 u239 u240 u241 u242 u243 u244 u245 u246 u247 u248 u249 u250 u251 u252 u253 u254 u255 u256 u257 u258 u259 u260 u261 u262 u263 u264 u265 u266 u267 u268 u269 u270 u271 u272 u273 u274 u275 u276 u277 u278 u279 u280 u281 u282 u283 u284 u285 u286 u287 u288 u289 u290 u291 u292 u293 u294 u295 u296 u297 u298 u299 u300 u301 u302 u303 u304 : Value} {Q : Exit → Act → World → Prop} {B n : Nat} {v7 : Value} {bs : List Nat} {w : World} (hL : bs.length = n) (hn : n ≤ 1048576) (hW : w.ownsRow B 5 1 v7 (bs ++ (128 :: List.replicate 0 0)).length (nums .u8 (bs ++ (128 :: List.replicate 0 0)))) (hBw : B ≤ w.heap.size)
    (hQ : ∀ (n40 n41 n42 n43 n44 n45 n46 : Value) (v : Value) (w' : World), w'.ownsRow B 5 1 v (n + 1 + zerosN n) (nums .u8 (bs ++ (128 :: List.replicate (zerosN n) 0))) → Below B w w' → Q .normal ⟨#[u0, u1, u2, u3, u4, u5, u6, v, u8, u9, u10, u11, u12, u13, u14, u15, u16, u17, u18, u19, u20, u21, u22, u23, u24, u25, u26, u27, u28, u29, u30, u31, u32, u33, u34, u35, u36, u37, u38, u39, n40, n41, n42, n43, n44, n45, n46, u47, u48, u49, u50, u51, u52, u53, u54, u55, u56, u57, u58, u59, u60, u61, u62, u63, u64, u65, u66, u67, u68, u69, u70, u71, u72, u73, u74, u75, u76, u77, u78, u79, u80, u81, u82, u83, u84, u85, u86, u87, u88, u89, u90, u91, u92, u93, u94, u95, u96, u97, u98, u99, u100, u101, u102, u103, u104, u105, u106, u107, u108, u109, u110, u111, u112, u113, u114, u115, u116, u117, u118, u119, u120, u121, u122, u123, u124, u125, u126, u127, u128, u129, u130, u131, u132, u133, u134, u135, u136, u137, u138, u139, u140, u141, u142, u143, u144, u145, u146, u147, u148, u149, u150, u151, u152, u153, u154, u155, u156, u157, u158, u159, u160, u161, u162, u163, u164, u165, u166, u167, u168, u169, u170, u171, u172, u173, u174, u175, u176, u177, u178, u179, u180, u181, u182, u183, u184, u185, u186, u187, u188, u189, u190, u191, u192, u193, u194, u195, u196, u197, u198, u199, u200, u201, u202, u203, u204, u205, u206, u207, u208, u209, u210, u211, u212, u213, u214, u215, u216, u217, u218, u219, u220, u221, u222, u223, u224, u225, u226, u227, u228, u229, u230, u231, u232, u233, u234, u235, u236, u237, u238, u239, u240, u241, u242, u243, u244, u245, u246, u247, u248, u249, u250, u251, u252, u253, u254, u255, u256, u257, u258, u259, u260, u261, u262, u263, u264, u265, u266, u267, u268, u269, u270, u271, u272, u273, u274, u275, u276, u277, u278, u279, u280, u281, u282, u283, u284, u285, u286, u287, u288, u289, u290, u291, u292, u293, u294, u295, u296, u297, u298, u299, u300, u301, u302, u303, u304], []⟩ w') :
    Code.wp Tryd.prog (headC ((Tryd.f22.body.bind (pickR 3)).getD .skip)) Q ⟨#[u0, u1, u2, u3, u4, u5, u6, v7, u8, u9, u10, u11, u12, u13, u14, u15, u16, u17, u18, u19, u20, u21, u22, u23, u24, u25, u26, u27, u28, u29, u30, u31, u32, u33, u34, u35, u36, u37, u38, u39, u40, u41, u42, u43, u44, u45, u46, u47, u48, u49, u50, u51, u52, u53, u54, u55, u56, u57, u58, u59, u60, u61, u62, u63, u64, u65, u66, u67, u68, u69, u70, u71, u72, u73, u74, u75, u76, u77, u78, u79, u80, u81, u82, u83, u84, u85, u86, u87, u88, u89, u90, u91, u92, u93, u94, u95, u96, u97, u98, u99, u100, u101, u102, u103, u104, u105, u106, u107, u108, u109, u110, u111, u112, u113, u114, u115, u116, u117, u118, u119, u120, u121, u122, u123, u124, u125, u126, u127, u128, u129, u130, u131, u132, u133, u134, u135, u136, u137, u138, u139, u140, u141, u142, u143, u144, u145, u146, u147, u148, u149, u150, u151, u152, u153, u154, u155, u156, u157, u158, u159, u160, u161, u162, u163, u164, u165, u166, u167, u168, u169, u170, u171, u172, u173, u174, u175, u176, u177, u178, u179, u180, u181, u182, u183, u184, u185, u186, u187, u188, u189, u190, u191, u192, u193, u194, u195, u196, u197, u198, u199, u200, u201, u202, u203, u204, u205, u206, u207, u208, u209, u210, u211, u212, u213, u214, u215, u216, u217, u218, u219, u220, u221, u222, u223, u224, u225, u226, u227, u228, u229, u230, u231, u232, u233, u234, u235, u236, u237, u238, u239, u240, u241, u242, u243, u244, u245, u246, u247, u248, u249, u250, u251, u252, u253, u254, u255, u256, u257, u258, u259, u260, u261, u262, u263, u264, u265, u266, u267, u268, u269, u270, u271, u272, u273, u274, u275, u276, u277, u278, u279, u280, u281, u282, u283, u284, u285, u286, u287, u288, u289, u290, u291, u292, u293, u294, u295, u296, u297, u298, u299, u300, u301, u302, u303, u304], []⟩ w := by
  have HL := hid hL
  have HQ := hid hQ
  have HW := hid hW
  clear hQ hL hW
  conv => arg 2; whnf
  go_wp2
  go_loopw [7] (fun x7 wr => ∃ (z : Nat) (v : Value), z ≤ zerosN n ∧ v = x7 ∧ wr.ownsRow B 5 1 v (bs ++ (128 :: List.replicate z 0)).length (nums .u8 (bs ++ (128 :: List.replicate z 0))) ∧ Below B w wr) (fun x7 _ => n + 1 + zerosN n - lenS x7)
  case atStart => exact ⟨0, v7, by omega, rfl, HW.out, Below.refl _ _⟩
  case round =>
    obtain ⟨z, v, hz, rfl, hown, hbw⟩ := hrel
    clear HW
    have hlen : (bs ++ (128 :: List.replicate z 0)).length = n + 1 + z := by simp [HL.out]; omega
    have hzN : zerosN n ≤ 64 := by unfold zerosN; split <;> omega
    have hmore := zeros_more (L := n) hz
    rw [hlen] at hown
    obtain ⟨av, cv, rfl, rv⟩ := Rd.of_owns hown
    have HO := hid hown
    have HBW := hid hbw
    have hbs := hbw.size
    obtain ⟨r, hr⟩ : ∃ r : Nat, r = (n + 1 + z) % 64 := ⟨_, rfl⟩
    obtain ⟨nz, hnz⟩ : ∃ nz : Nat, nz = n + 1 + z := ⟨_, rfl⟩
    rw [← hnz] at HO ⊢
    have er : (nz : Int) % 64 = (r : Int) := by omega
    have er2 : (nz : Int).tmod 64 = (r : Int) := by rw [Int.tmod_eq_emod_of_nonneg (by omega)]; exact er
    rw [← hr] at hmore
    have hnzb : nz < 4294967296 := by omega
    have HNZ := hid hnz
    by_cases hgo : z < zerosN n
    · have hr56 : r ≠ 56 := hmore.2 hgo
      have tr : ((r : Int) != 56) = true := by simp; omega
      have hz1 : z + 1 ≤ zerosN n := hgo
      have HZ1 := hid (show zerosN n - z - 1 + 1 = zerosN n - z by omega)
      clear hown rv hbw hmore hr hlen hr56 hnz
      have hBs : B ≤ wr.heap.size := by omega
      go_wp2_with (at_builtin; refine wpList_push rfl _ _ 22 rfl tyBs B HO.out rfl rfl rfl rfl hnzb (by decide) hBs ?_)
      intro v6 w6 own6 b6 hs6 _
      have el : bs ++ (128 :: List.replicate (z + 1) 0) = (bs ++ (128 :: List.replicate z 0)) ++ [0] := by
        rw [List.replicate_succ', List.append_assoc]; rfl
      have enz : (bs ++ (128 :: List.replicate z 0)).length = nz := by rw [HNZ.out]; simp [HL.out]; omega
      have O6 := hid (show w6.ownsRow B 5 1 v6 (bs ++ (128 :: List.replicate (z + 1) 0)).length (nums .u8 (bs ++ (128 :: List.replicate (z + 1) 0))) by
        rw [el, List.length_append, List.length_singleton, ← nums_snoc .u8 (show (0 : Int) = ((0 : Nat) : Int) from rfl), enz]; exact own6)
      have B6 := hid (HBW.out.trans b6)
      obtain ⟨a6, c6, rfl, _⟩ := Rd.of_owns own6
      clear own6 b6 hs6 el enz
      go_wp2
      go_roundw
      case rel => exact ⟨z + 1, _, hz1, rfl, O6.out, B6.out⟩
      case measure => simp; have := HNZ.out; omega
    · have hr56 : r = 56 := by
        rcases Nat.lt_or_ge z (zerosN n) with h | h
        · exact absurd h hgo
        · rcases Nat.decEq r 56 with h2 | h2
          · exact absurd (hmore.1 h2) hgo
          · exact h2
      have tr : ((r : Int) != 56) = false := by simp; omega
      have hzz : z = zerosN n := by omega
      have F1 := hid (show wr.ownsRow B 5 1 (.slice av nz cv) (n + 1 + zerosN n) (nums .u8 (bs ++ (128 :: List.replicate (zerosN n) 0))) by rw [← hzz, ← hnz]; exact HO.out)
      clear hown rv hbw hmore hr hlen hgo hr56 hnz hzz HO
      go_wp2
      refine HQ.out _ _ _ _ _ _ _ _ _ F1.out HBW.out
end Go.Proofs.YtpncdgogefhjlaaDoor
