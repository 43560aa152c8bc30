/- Loop 4 of the reference's Hash: the block's words. -/
import Derived.Test.YtpncdgogefhjlaaDoorHashRA
import Derived.Test.YtpncdgogefhjlaaDoorShaE
import Derived.Test.YtpncdgogefhjlaaDoorCatS
import Derived.Test.YtpncdgogefhjlaaDoorPick
import Derived.IntWalk
import Derived.Deep.Cut
import Derived.Deep.RegionHeld3
import Derived.Test.YtpncdgogefhjlaaDoorHpS
namespace Go.Proofs.YtpncdgogefhjlaaDoor
open Go.RowKit

set_option maxRecDepth 1000000 in
set_option maxHeartbeats 16000000 in
theorem hpA {u0 u1 u2 u3 u4 u5 u6 u8 u9 u10 u13 u14 u15 u16 u17 u18 u19 u20 u21 u22 u23 u24 u25 u26 u27 u28 u29 u30 u31 u32 u33 u34 u35 u36 u37 u38 u39 u40 u41 u42 u43 u44 u45 u46 u47 u48 u49 u50 u51 u52 u53 u54 u55 u56 u57 u58 u59 u60 u61 u62 u63 u64 u65 u66 u67 u68 u69 u70 u71 u72 u73 u74 u75 u76 u77 u78 u79 u80 u81 u82 u83 u84 u85 u86 u87 u88 u89 u90 u91 u92 u93 u94 u95 u96 u97 u98 u99 u100 u101 u102 u103 u104 u105 u106 u107 u108 u109 u110 u111 u112 u113 u114 u115 u116 u117 u118 u119 u120 u121 u122 u123 u124 u125 u126 u127 u128 u129 u130 u131 u132 u133 u134 u135 u136 u137 u138 u139 u140 u141 u142 u143 u144 u145 u146 u147 u148 u149 u150 u151 u152 u153 u154 u155 u156 u157 u158 u159 u160 u161 u162 u163 u164 u165 u166 u167 u168 u169 u170 u171 u172 u173 u174 u175 u176 u177 u178 u179 u180 u181 u182 u183 u184 u185 u186 u187 u188 u189 u190 u191 u192 u193 u194 u195 u196 u197 u198 u199 u200 u201 u202 u203 u204 u205 u206 u207 u208 u209 u210 u211 u212 u213 u214 u215 u216 u217 u218 u219 u220 u221 u222 u223 u224 u225 u226 u227 u228 u229 u230 u231 u232 u233 u234 u235 u236 u237 u238 u239 u240 u241 u242 u243 u244 u245 u246 u247 u248 u249 u250 u251 u252 u253 u254 u255 u256 u257 u258 u259 u260 u261 u262 u263 u264 u265 u266 u267 u268 u269 u270 u271 u272 u273 u274 u275 u276 u277 u278 u279 u280 u281 u282 u283 u284 u285 u286 u287 u288 u289 u290 u291 u292 u293 u294 u295 u296 u297 u298 u299 u300 u301 u302 u303 u304 : Value} {Q : Exit → Act → World → Prop} {gm LP cm p B B0 : Nat} {v12 : Value} {P : List Nat} {w : World} (hO : w.ownsRow B0 5 1 (.slice (some ⟨gm, 0, none⟩) LP cm) LP (nums .u8 P)) (hP : ∀ d ∈ P, d < 256) (hp : p + 64 ≤ LP) (hLP : LP < 8589934592) (hW : w.ownsRow B 28 1 v12 0 (nums .u32 [])) (hB : gm < B) (hBw : B ≤ w.heap.size)
    (hQ : ∀ (n13 n74 n75 n76 n77 n78 n79 n80 n81 n82 n83 n84 n85 n86 n87 n88 n89 n90 n91 n92 n93 n94 n95 n96 n97 n98 n99 n100 n101 n102 n103 n104 n105 n106 n107 n108 n109 n110 n111 n112 n113 n114 n115 n116 n117 : Value) (v : Value) (w' : World), w'.ownsRow B 28 1 v 16 (nums .u32 (wordsN ((P.drop p).take 64) 16)) → Below B w w' → Q .normal ⟨#[u0, u1, u2, u3, u4, u5, u6, .slice (some ⟨gm, 0, none⟩) LP cm, u8, u9, u10, .int .i64 (p : Int), v, n13, u14, u15, u16, u17, u18, u19, u20, u21, u22, u23, u24, u25, u26, u27, u28, u29, u30, u31, u32, u33, u34, u35, u36, u37, u38, u39, u40, u41, u42, u43, u44, u45, u46, u47, u48, u49, u50, u51, u52, u53, u54, u55, u56, u57, u58, u59, u60, u61, u62, u63, u64, u65, u66, u67, u68, u69, u70, u71, u72, u73, n74, n75, n76, n77, n78, n79, n80, n81, n82, n83, n84, n85, n86, n87, n88, n89, n90, n91, n92, n93, n94, n95, n96, n97, n98, n99, n100, n101, n102, n103, n104, n105, n106, n107, n108, n109, n110, n111, n112, n113, n114, n115, n116, n117, u118, u119, u120, u121, u122, u123, u124, u125, u126, u127, u128, u129, u130, u131, u132, u133, u134, u135, u136, u137, u138, u139, u140, u141, u142, u143, u144, u145, u146, u147, u148, u149, u150, u151, u152, u153, u154, u155, u156, u157, u158, u159, u160, u161, u162, u163, u164, u165, u166, u167, u168, u169, u170, u171, u172, u173, u174, u175, u176, u177, u178, u179, u180, u181, u182, u183, u184, u185, u186, u187, u188, u189, u190, u191, u192, u193, u194, u195, u196, u197, u198, u199, u200, u201, u202, u203, u204, u205, u206, u207, u208, u209, u210, u211, u212, u213, u214, u215, u216, u217, u218, u219, u220, u221, u222, u223, u224, u225, u226, u227, u228, u229, u230, u231, u232, u233, u234, u235, u236, u237, u238, u239, u240, u241, u242, u243, u244, u245, u246, u247, u248, u249, u250, u251, u252, u253, u254, u255, u256, u257, u258, u259, u260, u261, u262, u263, u264, u265, u266, u267, u268, u269, u270, u271, u272, u273, u274, u275, u276, u277, u278, u279, u280, u281, u282, u283, u284, u285, u286, u287, u288, u289, u290, u291, u292, u293, u294, u295, u296, u297, u298, u299, u300, u301, u302, u303, u304], []⟩ w') :
    Code.wp Tryd.prog (headC ((Tryd.f22.body.bind (pickR 17)).getD .skip)) Q ⟨#[u0, u1, u2, u3, u4, u5, u6, .slice (some ⟨gm, 0, none⟩) LP cm, u8, u9, u10, .int .i64 (p : Int), v12, u13, u14, u15, u16, u17, u18, u19, u20, u21, u22, u23, u24, u25, u26, u27, u28, u29, u30, u31, u32, u33, u34, u35, u36, u37, u38, u39, u40, u41, u42, u43, u44, u45, u46, u47, u48, u49, u50, u51, u52, u53, u54, u55, u56, u57, u58, u59, u60, u61, u62, u63, u64, u65, u66, u67, u68, u69, u70, u71, u72, u73, u74, u75, u76, u77, u78, u79, u80, u81, u82, u83, u84, u85, u86, u87, u88, u89, u90, u91, u92, u93, u94, u95, u96, u97, u98, u99, u100, u101, u102, u103, u104, u105, u106, u107, u108, u109, u110, u111, u112, u113, u114, u115, u116, u117, u118, u119, u120, u121, u122, u123, u124, u125, u126, u127, u128, u129, u130, u131, u132, u133, u134, u135, u136, u137, u138, u139, u140, u141, u142, u143, u144, u145, u146, u147, u148, u149, u150, u151, u152, u153, u154, u155, u156, u157, u158, u159, u160, u161, u162, u163, u164, u165, u166, u167, u168, u169, u170, u171, u172, u173, u174, u175, u176, u177, u178, u179, u180, u181, u182, u183, u184, u185, u186, u187, u188, u189, u190, u191, u192, u193, u194, u195, u196, u197, u198, u199, u200, u201, u202, u203, u204, u205, u206, u207, u208, u209, u210, u211, u212, u213, u214, u215, u216, u217, u218, u219, u220, u221, u222, u223, u224, u225, u226, u227, u228, u229, u230, u231, u232, u233, u234, u235, u236, u237, u238, u239, u240, u241, u242, u243, u244, u245, u246, u247, u248, u249, u250, u251, u252, u253, u254, u255, u256, u257, u258, u259, u260, u261, u262, u263, u264, u265, u266, u267, u268, u269, u270, u271, u272, u273, u274, u275, u276, u277, u278, u279, u280, u281, u282, u283, u284, u285, u286, u287, u288, u289, u290, u291, u292, u293, u294, u295, u296, u297, u298, u299, u300, u301, u302, u303, u304], []⟩ w := by
  have HO := hid hO
  have HP := hid hP
  have HW := hid hW
  have HQ := hid hQ
  have hlP := hid (show P.length = LP by have := hO.1; simpa using this)
  clear hO hP hW hQ
  conv => arg 2; whnf
  go_wp2
  go_loopw [12, 13] (fun x12 x13 wr => ∃ (q i4 : Nat) (v : Value), Hid (i4 = 4 * q) ∧ i4 ≤ 64 ∧ x13 = .int .i64 i4 ∧ v = x12 ∧ wr.ownsRow B 28 1 v q (nums .u32 (wordsN ((P.drop p).take 64) q)) ∧ Below B w wr) (fun _ x13 _ => 64 - (intOf x13).toNat)
  case atStart => exact ⟨0, 0, _, hid rfl, by omega, rfl, rfl, HW.out, Below.refl _ _⟩
  case round =>
    obtain ⟨q, i4, v, hiq, hi64, rfl, rfl, hown, hbq⟩ := hrel
    clear HW
    have HBQ := hid hbq
    have HOQ := hid hown
    by_cases hlt4 : i4 < 64
    · obtain ⟨s0, hs0⟩ : ∃ s0 : Nat, s0 = p + i4 := ⟨_, rfl⟩
      have es0 : (p : Int) + (i4 : Int) = (s0 : Int) := by omega
      have hs0L : s0 + 3 < LP := by have := hiq.out; omega
      have hq16 : q < 16 := by have := hiq.out; omega
      have om : wr.ownsRow B0 5 1 (.slice (some ⟨gm, 0, none⟩) LP cm) LP (nums .u8 P) := own_low HO.out hbq (by intro k hk; simp [Value.ownBlock] at hk; omega)
      have d0 := getDlt HP.out (by omega) s0
      have d1 := getDlt HP.out (by omega) (s0 + 1)
      have d2 := getDlt HP.out (by omega) (s0 + 2)
      have d3 := getDlt HP.out (by omega) (s0 + 3)
      have hlPp := hlP.out
      have c0 := (om.cellAt s0 (by omega)).trans (nums_get .u8 (by omega))
      have c1 := (om.cellAt (s0 + 1) (by omega)).trans (nums_get .u8 (by omega))
      have c2 := (om.cellAt (s0 + 2) (by omega)).trans (nums_get .u8 (by omega))
      have c3 := (om.cellAt (s0 + 3) (by omega)).trans (nums_get .u8 (by omega))
      have HWD := hid (show word ((P.drop p).take 64) q = ((P.getD s0 0 * 256 + P.getD (s0 + 1) 0) * 256 + P.getD (s0 + 2) 0) * 256 + P.getD (s0 + 3) 0 by
        have hq := hiq.out
        have g : ∀ c, c < 4 → ((P.drop p).take 64).getD (4 * q + c) 0 = P.getD (s0 + c) 0 := by
          intro c hc
          rw [List.getD_eq_getElem?_getD, List.getElem?_take, if_pos (by omega), List.getElem?_drop, List.getD_eq_getElem?_getD]
          congr 2
          omega
        unfold word
        rw [g 1 (by omega), g 2 (by omega), g 3 (by omega)]
        have g0 := g 0 (by omega)
        rw [Nat.add_zero, Nat.add_zero] at g0
        rw [g0])
      generalize P.getD s0 0 = v0 at *
      generalize P.getD (s0 + 1) 0 = v1 at *
      generalize P.getD (s0 + 2) 0 = v2' at *
      generalize P.getD (s0 + 3) 0 = v3 at *
      have i0 : (s0 : Int) < (LP : Int) := by omega
      have i1 : (s0 : Int) + 1 < (LP : Int) := by omega
      have i2 : (s0 : Int) + 2 < (LP : Int) := by omega
      have i3 : (s0 : Int) + 3 < (LP : Int) := by omega
      clear om hlPp hs0 hown hbq
      go_upto_region 20 with (fail)
      have jw0 : IntKind.i64.wrap (s0 : Int) = (s0 : Int) := IntWalk.i64_in _ (by omega)
      have jw1 : IntKind.i64.wrap ((s0 : Int) + 1) = (s0 : Int) + 1 := IntWalk.i64_in _ (by omega)
      have jw2 : IntKind.i64.wrap ((s0 : Int) + 2) = (s0 : Int) + 2 := IntWalk.i64_in _ (by omega)
      have jw3 : IntKind.i64.wrap ((s0 : Int) + 3) = (s0 : Int) + 3 := IntWalk.i64_in _ (by omega)
      have jn1 : ((s0 : Int) + 1).toNat = s0 + 1 := by omega
      have jn2 : ((s0 : Int) + 2).toNat = s0 + 2 := by omega
      have jn3 : ((s0 : Int) + 3).toNat = s0 + 3 := by omega
      have jp1 : (0 : Int) ≤ (s0 : Int) + 1 := by omega
      have jp2 : (0 : Int) ≤ (s0 : Int) + 2 := by omega
      have jp3 : (0 : Int) ≤ (s0 : Int) + 3 := by omega
      obtain ⟨V, hV⟩ : ∃ V : Nat, V = ((v0 * 256 + v1) * 256 + v2') * 256 + v3 := ⟨_, rfl⟩
      rw [← hV] at HWD
      obtain ⟨V1, hV1⟩ : ∃ V1 : Nat, V1 = v0 * 256 := ⟨_, rfl⟩
      obtain ⟨V2, hV2⟩ : ∃ V2 : Nat, V2 = v0 * 256 + v1 := ⟨_, rfl⟩
      obtain ⟨V3, hV3⟩ : ∃ V3 : Nat, V3 = (v0 * 256 + v1) * 256 := ⟨_, rfl⟩
      obtain ⟨V4, hV4⟩ : ∃ V4 : Nat, V4 = (v0 * 256 + v1) * 256 + v2' := ⟨_, rfl⟩
      obtain ⟨V5, hV5⟩ : ∃ V5 : Nat, V5 = ((v0 * 256 + v1) * 256 + v2') * 256 := ⟨_, rfl⟩
      have kw : ∀ x : Nat, x < 4294967296 → IntKind.u32.wrap (x : Int) = (x : Int) := fun x hx => by rw [IntKind.wrap_u32]; omega
      have k0 := kw v0 (by omega)
      have k1 := kw v1 (by omega)
      have k2 := kw v2' (by omega)
      have k3 := kw v3 (by omega)
      have m1 : IntKind.u32.wrap ((v0 : Int) * 256) = (V1 : Int) := by rw [show (v0 : Int) * 256 = (V1 : Int) by omega]; exact kw _ (by omega)
      have m2 : IntKind.u32.wrap ((V1 : Int) + (v1 : Int)) = (V2 : Int) := by rw [show (V1 : Int) + (v1 : Int) = (V2 : Int) by omega]; exact kw _ (by omega)
      have m3 : IntKind.u32.wrap ((V2 : Int) * 256) = (V3 : Int) := by rw [show (V2 : Int) * 256 = (V3 : Int) by omega]; exact kw _ (by omega)
      have m4 : IntKind.u32.wrap ((V3 : Int) + (v2' : Int)) = (V4 : Int) := by rw [show (V3 : Int) + (v2' : Int) = (V4 : Int) by omega]; exact kw _ (by omega)
      have m5 : IntKind.u32.wrap ((V4 : Int) * 256) = (V5 : Int) := by rw [show (V4 : Int) * 256 = (V5 : Int) by omega]; exact kw _ (by omega)
      have m6 : IntKind.u32.wrap ((V5 : Int) + (v3 : Int)) = (V : Int) := by rw [show (V5 : Int) + (v3 : Int) = (V : Int) by omega]; exact kw _ (by omega)
      clear hV hV1 hV2 hV3 hV4 hV5 kw d0 d1 d2 d3
      have bN := (Below.refl wr.heap.size wr).alloc (Nat.le_refl _) (.cells #[.int .u32 (V : Int)] 28)
      have hBs := HBQ.out.size
      have e0 := cell_keep' c0 bN.drew
      have e1 := cell_keep' c1 bN.drew
      have e2 := cell_keep' c2 bN.drew
      have e3 := cell_keep' c3 bN.drew
      have oN := hid (own_below HOQ.out bN.drew)
      have hne9 : ∀ j, some (⟨gm, j, none⟩ : Addr).block ≠ v.ownBlock := fun j e => by have := (HOQ.out.lt _ e.symm).1; simp only at this; omega
      go_region_held3 (fun w' => w'.cell? ⟨gm, s0, none⟩ = some (.int .u8 (v0 : Int)) ∧ w'.cell? ⟨gm, s0 + 1, none⟩ = some (.int .u8 (v1 : Int)) ∧ w'.cell? ⟨gm, s0 + 2, none⟩ = some (.int .u8 (v2' : Int)) ∧ w'.cell? ⟨gm, s0 + 3, none⟩ = some (.int .u8 (v3 : Int)))
        (first | exact ⟨c0, c1, c2, c3⟩ | exact ⟨e0, e1, e2, e3⟩ | exact ⟨cell_grown e0 g9 (hne9 _), cell_grown e1 g9 (hne9 _), cell_grown e2 g9 (hne9 _), cell_grown e3 g9 (hne9 _)⟩)
        (first | (refine step_cat rfl (.tmp 78) (.tmp 116) 83 rfl tyU32s B oN.out rfl rfl ((rd_new1 wr _ _).below ((Below.refl _ _).drew)) (by intro u hu; simp only [List.mem_singleton] at hu; subst hu; rfl) (by omega) (by unfold maxLen; omega) (by simp; omega) ?_; intro v9 w9 o9 g9 l9) | fail)
      have O9 := hid (show w9.ownsRow B 28 1 v9 (q + 1) (nums .u32 (wordsN ((P.drop p).take 64) (q + 1))) by
        rw [wordsN, HWD.out, ← nums_snoc .u32 rfl]; exact o9)
      have B9 := hid ((HBQ.out.trans (bN.drew.mono hBs |> fun h => h.mono (by omega))).grown g9 (by simp; omega) (fun k hk => (HOQ.out.lt k hk).1))
      clear o9 g9 l9 e0 e1 e2 e3 c0 c1 c2 c3 bN oN hne9 jw0 jw1 jw2 jw3 jn1 jn2 jn3 jp1 jp2 jp3 m1 m2 m3 m4 m5 m6 k0 k1 k2 k3 i0 i1 i2 i3 es0
      go_wp2
      go_roundw
      case rel => exact ⟨q + 1, i4 + 4, v9, hid (by have := hiq.out; omega), by have := hiq.out; omega, by go_num, rfl, O9.out, B9.out⟩
      case measure => simp only [intOf]; omega
    · have hi64 : i4 = 64 := by omega
      have hq16 : q = 16 := by have := hiq.out; omega
      subst hq16
      go_wp2
      apply HQ.out
      · exact HOQ.out
      · exact HBQ.out
end Go.Proofs.YtpncdgogefhjlaaDoor
