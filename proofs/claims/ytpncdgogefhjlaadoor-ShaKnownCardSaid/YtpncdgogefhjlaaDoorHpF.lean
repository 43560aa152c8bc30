/- A block of the reference's Hash. -/
import Derived.Test.YtpncdgogefhjlaaDoorHashRA
import Derived.Test.YtpncdgogefhjlaaDoorShaE
import Derived.Test.YtpncdgogefhjlaaDoorCatS
import Derived.Test.YtpncdgogefhjlaaDoorPick
import Derived.IntWalk
import Derived.Deep.Cut
import Derived.Deep.RegionHeld3
import Derived.Test.YtpncdgogefhjlaaDoorHpS
import Derived.Test.YtpncdgogefhjlaaDoorHpA
import Derived.Test.YtpncdgogefhjlaaDoorHpB
import Derived.Test.YtpncdgogefhjlaaDoorHpC
import Derived.Test.YtpncdgogefhjlaaDoorHpD
import Derived.Test.YtpncdgogefhjlaaDoorHpE
import Derived.Test.YtpncdgogefhjlaaDoorHpR
import Derived.Test.YtpncdgogefhjlaaDoorHpR2
namespace Go.Proofs.YtpncdgogefhjlaaDoor
open Go.RowKit

set_option maxRecDepth 1000000 in
set_option maxHeartbeats 16000000 in
theorem hpF {u0 u1 u2 u3 u6 u8 u9 u10 u12 u13 u14 u15 u16 u17 u18 u19 u20 u21 u22 u23 u24 u25 u26 u27 u28 u29 u30 u31 u32 u33 u34 u35 u36 u37 u38 u39 u40 u41 u42 u43 u44 u45 u46 u47 u48 u49 u50 u51 u52 u53 u54 u55 u56 u57 u58 u59 u60 u61 u62 u63 u64 u65 u66 u67 u68 u69 u70 u71 u72 u73 u74 u75 u76 u77 u78 u79 u80 u81 u82 u83 u84 u85 u86 u87 u88 u89 u90 u91 u92 u93 u94 u95 u96 u97 u98 u99 u100 u101 u102 u103 u104 u105 u106 u107 u108 u109 u110 u111 u112 u113 u114 u115 u116 u117 u118 u119 u120 u121 u122 u123 u124 u125 u126 u127 u128 u129 u130 u131 u132 u133 u134 u135 u136 u137 u138 u139 u140 u141 u142 u143 u144 u145 u146 u147 u148 u149 u150 u151 u152 u153 u154 u155 u156 u157 u158 u159 u160 u161 u162 u163 u164 u165 u166 u167 u168 u169 u170 u171 u172 u173 u174 u175 u176 u177 u178 u179 u180 u181 u182 u183 u184 u185 u186 u187 u188 u189 u190 u191 u192 u193 u194 u195 u196 u197 u198 u199 u200 u201 u202 u203 u204 u205 u206 u207 u208 u209 u210 u211 u212 u213 u214 u215 u216 u217 u218 u219 u220 u221 u222 u223 u224 u225 u226 u227 u228 u229 u230 u231 u232 u233 u234 u235 u236 u237 u238 u239 u240 u241 u242 u243 u244 u245 u246 u247 u248 u249 u250 u251 u252 u253 u254 u255 u256 u257 u258 u259 u260 u261 u262 u263 u264 u265 u266 u267 u268 u269 u270 u271 u272 u273 u274 u275 u276 u277 u278 u279 u280 u281 u282 u283 u284 u285 u286 u287 u288 u289 u290 u291 u292 u293 u294 u295 u296 u297 u298 u299 u300 u301 u302 u303 u304 : Value} {Q : Exit → Act → World → Prop} {GS GK gm LP cm p B0 : Nat} {P K S : List Nat} {cur : Array Value} {T : TypeId} {w : World} (hO : w.ownsRow B0 5 1 (.slice (some ⟨gm, 0, none⟩) LP cm) LP (nums .u8 P)) (hP : ∀ d ∈ P, d < 256) (hp : p + 64 ≤ LP) (hLP : LP < 8589934592) (hS8 : S.length = 8) (hS2 : ∀ d ∈ S, d < 4294967296) (hG : w.heap[GS]? = some (.cells cur T (0, 0))) (hcur : cur.toList = nums .u32 S) (hK2 : ∀ d ∈ K, d < 4294967296) (hkc : ∀ n, n < 64 → w.cell? ⟨GK, n, none⟩ = some (.int .u32 ((K.getD n 0 : Nat) : Int)))
    (hQ : ∀ (n12 n13 n14 n15 n16 n17 n18 n19 n20 n21 n22 n23 n24 n25 n26 n27 n28 n29 n73 n74 n75 n76 n77 n78 n79 n80 n81 n82 n83 n84 n85 n86 n87 n88 n89 n90 n91 n92 n93 n94 n95 n96 n97 n98 n99 n100 n101 n102 n103 n104 n105 n106 n107 n108 n109 n110 n111 n112 n113 n114 n115 n116 n117 n118 n119 n120 n121 n122 n123 n124 n125 n126 n127 n128 n129 n130 n131 n132 n133 n134 n135 n136 n137 n138 n139 n140 n141 n142 n143 n144 n145 n146 n147 n148 n149 n150 n151 n152 n153 n154 n155 n156 n157 n158 n159 n160 n161 n162 n163 n164 n165 n166 n167 n168 n169 n170 n171 n172 n173 n174 n175 n176 n177 n178 n179 n180 n181 n182 n183 n184 n185 n186 n187 n188 n189 n190 n191 n192 n193 n194 n195 n196 n197 n198 n199 n200 n201 n202 n203 n204 n205 n206 n207 n208 n209 n210 n211 n212 n213 n214 n215 n216 n217 n218 n219 n220 n221 n222 n223 n224 n225 n226 n227 n228 n229 n230 n231 n232 n233 n234 n235 n236 n237 n238 n239 n240 n241 n242 n243 n244 n245 n246 n247 n248 n249 n250 n251 n252 n253 n254 n255 n256 n257 n258 n259 n260 n261 n262 n263 n264 n265 n266 n267 n268 n269 n270 n271 n272 n273 n274 n275 n276 n277 n278 n279 n280 n281 : Value) (cur' : Array Value) (w' : World), w'.heap[GS]? = some (.cells cur' T (0, 0)) → cur'.toList = nums .u32 (comp K S ((P.drop p).take 64)) → Far GS w w' → Q .normal ⟨#[u0, u1, u2, u3, .pointer (some ⟨GS, 0, none⟩), .pointer (some ⟨GK, 0, none⟩), u6, .slice (some ⟨gm, 0, none⟩) LP cm, u8, u9, u10, .int .i64 (p : Int), n12, n13, n14, n15, n16, n17, n18, n19, n20, n21, n22, n23, n24, n25, n26, n27, n28, n29, u30, u31, u32, u33, u34, u35, u36, u37, u38, u39, u40, u41, u42, u43, u44, u45, u46, u47, u48, u49, u50, u51, u52, u53, u54, u55, u56, u57, u58, u59, u60, u61, u62, u63, u64, u65, u66, u67, u68, u69, u70, u71, u72, n73, n74, n75, n76, n77, n78, n79, n80, n81, n82, n83, n84, n85, n86, n87, n88, n89, n90, n91, n92, n93, n94, n95, n96, n97, n98, n99, n100, n101, n102, n103, n104, n105, n106, n107, n108, n109, n110, n111, n112, n113, n114, n115, n116, n117, n118, n119, n120, n121, n122, n123, n124, n125, n126, n127, n128, n129, n130, n131, n132, n133, n134, n135, n136, n137, n138, n139, n140, n141, n142, n143, n144, n145, n146, n147, n148, n149, n150, n151, n152, n153, n154, n155, n156, n157, n158, n159, n160, n161, n162, n163, n164, n165, n166, n167, n168, n169, n170, n171, n172, n173, n174, n175, n176, n177, n178, n179, n180, n181, n182, n183, n184, n185, n186, n187, n188, n189, n190, n191, n192, n193, n194, n195, n196, n197, n198, n199, n200, n201, n202, n203, n204, n205, n206, n207, n208, n209, n210, n211, n212, n213, n214, n215, n216, n217, n218, n219, n220, n221, n222, n223, n224, n225, n226, n227, n228, n229, n230, n231, n232, n233, n234, n235, n236, n237, n238, n239, n240, n241, n242, n243, n244, n245, n246, n247, n248, n249, n250, n251, n252, n253, n254, n255, n256, n257, n258, n259, n260, n261, n262, n263, n264, n265, n266, n267, n268, n269, n270, n271, n272, n273, n274, n275, n276, n277, n278, n279, n280, n281, u282, u283, u284, u285, u286, u287, u288, u289, u290, u291, u292, u293, u294, u295, u296, u297, u298, u299, u300, u301, u302, u303, u304], []⟩ w') :
    Code.wp Tryd.prog (inB (headC ((Tryd.f22.body.bind (pickR 16)).getD .skip))) Q ⟨#[u0, u1, u2, u3, .pointer (some ⟨GS, 0, none⟩), .pointer (some ⟨GK, 0, none⟩), u6, .slice (some ⟨gm, 0, none⟩) LP cm, u8, u9, u10, .int .i64 (p : Int), u12, u13, u14, u15, u16, u17, u18, u19, u20, u21, u22, u23, u24, u25, u26, u27, u28, u29, u30, u31, u32, u33, u34, u35, u36, u37, u38, u39, u40, u41, u42, u43, u44, u45, u46, u47, u48, u49, u50, u51, u52, u53, u54, u55, u56, u57, u58, u59, u60, u61, u62, u63, u64, u65, u66, u67, u68, u69, u70, u71, u72, u73, u74, u75, u76, u77, u78, u79, u80, u81, u82, u83, u84, u85, u86, u87, u88, u89, u90, u91, u92, u93, u94, u95, u96, u97, u98, u99, u100, u101, u102, u103, u104, u105, u106, u107, u108, u109, u110, u111, u112, u113, u114, u115, u116, u117, u118, u119, u120, u121, u122, u123, u124, u125, u126, u127, u128, u129, u130, u131, u132, u133, u134, u135, u136, u137, u138, u139, u140, u141, u142, u143, u144, u145, u146, u147, u148, u149, u150, u151, u152, u153, u154, u155, u156, u157, u158, u159, u160, u161, u162, u163, u164, u165, u166, u167, u168, u169, u170, u171, u172, u173, u174, u175, u176, u177, u178, u179, u180, u181, u182, u183, u184, u185, u186, u187, u188, u189, u190, u191, u192, u193, u194, u195, u196, u197, u198, u199, u200, u201, u202, u203, u204, u205, u206, u207, u208, u209, u210, u211, u212, u213, u214, u215, u216, u217, u218, u219, u220, u221, u222, u223, u224, u225, u226, u227, u228, u229, u230, u231, u232, u233, u234, u235, u236, u237, u238, u239, u240, u241, u242, u243, u244, u245, u246, u247, u248, u249, u250, u251, u252, u253, u254, u255, u256, u257, u258, u259, u260, u261, u262, u263, u264, u265, u266, u267, u268, u269, u270, u271, u272, u273, u274, u275, u276, u277, u278, u279, u280, u281, u282, u283, u284, u285, u286, u287, u288, u289, u290, u291, u292, u293, u294, u295, u296, u297, u298, u299, u300, u301, u302, u303, u304], []⟩ w := by
  have hcode : inB (headC ((Tryd.f22.body.bind (pickR 16)).getD .skip)) = Code.seq (headC (inB (headC ((Tryd.f22.body.bind (pickR 16)).getD .skip)))) (.seq (headC ((Tryd.f22.body.bind (pickR 17)).getD .skip)) (.seq (headC ((Tryd.f22.body.bind (pickR 21)).getD .skip)) (.seq (headC ((Tryd.f22.body.bind (pickR 27)).getD .skip)) (.seq (headC ((Tryd.f22.body.bind (pickR 28)).getD .skip)) ((Tryd.f22.body.bind (pickR 34)).getD .skip))))) := by kernel_rfl
  rw [hcode]
  have hgm : gm < w.heap.size := (hO.lt gm rfl).2
  have hGlt := (Array.getElem?_eq_some_iff.1 hG).1
  obtain ⟨blk, hblk⟩ : ∃ blk, blk = (P.drop p).take 64 := ⟨_, rfl⟩
  have hb256 : ∀ d ∈ blk, d < 256 := fun d hd => hP d (List.mem_of_mem_drop (List.mem_of_mem_take (hblk ▸ hd)))
  match S, hS8 with
  | [z0, z1, z2, z3, z4, z5, z6, z7], hS8 =>
    have gc : ∀ (w' : World), Below w.heap.size w w' → ∀ m, m < 8 → w'.cell? ⟨GS, m, none⟩ = some (.int .u32 (([z0, z1, z2, z3, z4, z5, z6, z7].getD m 0 : Nat) : Int)) := by
      intro w' hb m hm
      rw [cell_of_row _ GS m _ T (0, 0) ((hb.block GS hGlt).trans hG), ← Array.getElem?_toList, hcur]
      exact nums_get .u32 (by simp; omega)
    refine wp_seq (hp16 ?_)
    intro n73 v1 w1 o1 b1
    refine wp_seq (hpA (own_below hO b1) hP hp hLP o1 hgm b1.size ?_)
    intro n13 n74 n75 n76 n77 n78 n79 n80 n81 n82 n83 n84 n85 n86 n87 n88 n89 n90 n91 n92 n93 n94 n95 n96 n97 n98 n99 n100 n101 n102 n103 n104 n105 n106 n107 n108 n109 n110 n111 n112 n113 n114 n115 n116 n117 v2 w2 o2 b2
    refine wp_seq (hpB hb256 (hblk ▸ o2) (Nat.le_trans b1.size b2.size) ?_)
    intro n14 n15 n16 n118 n119 n120 n121 n122 n123 n124 n125 n126 n127 n128 n129 n130 n131 n132 n133 n134 n135 n136 n137 n138 n139 n140 n141 n142 n143 n144 n145 n146 n147 n148 n149 n150 n151 n152 n153 n154 n155 n156 n157 n158 n159 n160 n161 n162 n163 n164 n165 n166 n167 n168 n169 n170 n171 n172 n173 n174 n175 n176 n177 n178 n179 v3 w3 o3 b3
    have B3 := (b1.trans b2).trans b3
    refine wp_seq (hp27 (gc _ B3 0 (by omega)) (gc _ B3 1 (by omega)) (gc _ B3 2 (by omega)) (gc _ B3 3 (by omega)) (gc _ B3 4 (by omega)) (gc _ B3 5 (by omega)) (gc _ B3 6 (by omega)) (gc _ B3 7 (by omega)) ?_)
    intro n180 n181 n182 n183 n184 n185 n186 n187 n188 n189 n190 n191 n192 n193 n194 n195 w4 q4
    have hv3 : ∃ gw cw, v3 = .slice (some ⟨gw, 0, none⟩) 64 cw := by
      rcases o3.2 with ⟨_, h0⟩ | ⟨g, c, cur, e, _⟩
      · omega
      · exact ⟨g, c, e⟩
    obtain ⟨gw, cw, rfl⟩ := hv3
    have o4 := own_below o3 (q4.below _)
    have B4 := B3.trans (q4.below w.heap.size)
    have ok : (St.mk z0 z1 z2 z3 z4 z5 z6 z7).ok := ⟨hS2 z0 (by simp), hS2 z1 (by simp), hS2 z2 (by simp), hS2 z3 (by simp), hS2 z4 (by simp), hS2 z5 (by simp), hS2 z6 (by simp), hS2 z7 (by simp)⟩
    refine wp_seq (hpC (GK := GK) (K := K) (W := schedN blk 48) ok hK2 (schedN_lt hb256 48) (fun n hn => cell_keep' (hkc n hn) B4) (fun n hn => (o4.cellAt n (by omega)).trans (nums_get .u32 (by rw [schedN_len]; omega))) ?_)
    intro n25 n26 n27 n196 n197 n198 n199 n200 n201 n202 n203 n204 n205 n206 n207 n208 n209 n210 n211 n212 n213 n214 n215 n216 n217 n218 n219 n220 n221 n222 n223 n224 n225 n226 n227 n228 n229 n230 n231 n232 n233 n234 n235 n236 n237 n238 n239 n240 n241 n242 n243 n244 n245 n246 n247 n248 n249 n250 n251 n252 n253 n254 n255 n256 n257 n258 n259 s w5 hs hok q5
    have B5 := B4.trans (q5.below w.heap.size)
    refine hpD hS8 ((B5.block GS hGlt).trans hG) hcur ?_
    intro n28 n29 n260 n261 n262 n263 n264 n265 n266 n267 n268 n269 n270 n271 n272 n273 n274 n275 n276 n277 n278 n279 n280 n281 cur' w6 h6 hc6 f6
    refine hQ _ _ _ _ _ _ _ _ _ _ _ _ _ _ _ _ _ _ _ _ _ _ _ _ _ _ _ _ _ _ _ _ _ _ _ _ _ _ _ _ _ _ _ _ _ _ _ _ _ _ _ _ _ _ _ _ _ _ _ _ _ _ _ _ _ _ _ _ _ _ _ _ _ _ _ _ _ _ _ _ _ _ _ _ _ _ _ _ _ _ _ _ _ _ _ _ _ _ _ _ _ _ _ _ _ _ _ _ _ _ _ _ _ _ _ _ _ _ _ _ _ _ _ _ _ _ _ _ _ _ _ _ _ _ _ _ _ _ _ _ _ _ _ _ _ _ _ _ _ _ _ _ _ _ _ _ _ _ _ _ _ _ _ _ _ _ _ _ _ _ _ _ _ _ _ _ _ _ _ _ _ _ _ _ _ _ _ _ _ _ _ _ _ _ _ _ _ _ _ _ _ _ _ _ _ _ _ _ _ _ _ _ _ _ _ _ _ _ _ _ _ _ _ _ _ _ _ cur' w6 h6 ?_ ((Far.of B5).trans f6)
    rw [hc6, ← hblk]
    have e : [s.a, s.b, s.c, s.d, s.e, s.f, s.g, s.h] = ((St.mk z0 z1 z2 z3 z4 z5 z6 z7).rounds K (schedN blk 48) 64).list := by
      rw [hs]; rfl
    rw [e]
    rfl
end Go.Proofs.YtpncdgogefhjlaaDoor
