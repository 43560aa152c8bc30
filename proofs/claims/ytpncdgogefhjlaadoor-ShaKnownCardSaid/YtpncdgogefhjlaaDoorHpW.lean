/- The walk of the reference's Hash. -/
import Derived.Test.YtpncdgogefhjlaaDoorHpG
import Derived.Test.YtpncdgogefhjlaaDoorHpH
import Derived.Test.YtpncdgogefhjlaaDoorHpI
import Derived.Test.YtpncdgogefhjlaaDoorHpE
import Derived.Test.YtpncdgogefhjlaaDoorMake
namespace Go.Proofs.YtpncdgogefhjlaaDoor
open Go.RowKit

theorem alloc3h (w : World) (a b c : Obj) : (((w.alloc a).alloc b).alloc c).heap[w.heap.size]? = some a ∧ (((w.alloc a).alloc b).alloc c).heap[w.heap.size + 1]? = some b ∧ (((w.alloc a).alloc b).alloc c).heap[w.heap.size + 1 + 1]? = some c ∧
    (((w.alloc a).alloc b).alloc c).heap.size = w.heap.size + 1 + 1 + 1 ∧ Below w.heap.size w (((w.alloc a).alloc b).alloc c) := by
  have e1 : (w.alloc a).heap.size = w.heap.size + 1 := by simp
  have e2 : ((w.alloc a).alloc b).heap.size = w.heap.size + 1 + 1 := by simp
  have h0 := heap_alloc_new w a
  have h1 := heap_alloc_new (w.alloc a) b
  have h2 := heap_alloc_new ((w.alloc a).alloc b) c
  rw [e1] at h1
  rw [e2] at h2
  refine ⟨?_, ?_, h2, by simp, (((Below.refl w.heap.size w).alloc (Nat.le_refl _) a).alloc (by omega) b).alloc (by omega) c⟩
  · rw [Below.heap_alloc _ _ _ (by omega), Below.heap_alloc _ _ _ (by omega)]; exact h0
  · rw [Below.heap_alloc _ _ _ (by omega)]; exact h1
def HRes (K S b : List Nat) (w : World) (e : Ending) (w' : World) : Prop := e = .returned (hv (hashS K S b)) ∧ Below w.heap.size w w'
theorem hash_len {K S b : List Nat} (h : S.length = 8) : (hashS K S b).length = 32 := by
  have := runB_len (K := K) (bs := b ++ padN b.length) h ((b ++ padN b.length).length / 64)
  rw [hashS]
  generalize runB K S (b ++ padN b.length) ((b ++ padN b.length).length / 64) = L at this ⊢
  match L, this with
  | [a1, a2, a3, a4, a5, a6, a7, a8], _ => rfl
theorem infoO : (Tryd.prog.info? 25).map (·.size) = some 32 := by kernel_rfl
def z32 : Array Value := #[.int .u8 0, .int .u8 0, .int .u8 0, .int .u8 0, .int .u8 0, .int .u8 0, .int .u8 0, .int .u8 0, .int .u8 0, .int .u8 0, .int .u8 0, .int .u8 0, .int .u8 0, .int .u8 0, .int .u8 0, .int .u8 0, .int .u8 0, .int .u8 0, .int .u8 0, .int .u8 0, .int .u8 0, .int .u8 0, .int .u8 0, .int .u8 0, .int .u8 0, .int .u8 0, .int .u8 0, .int .u8 0, .int .u8 0, .int .u8 0, .int .u8 0, .int .u8 0]
theorem z32_list : z32.toList = nums .u8 (List.replicate 32 0) := by kernel_rfl
theorem z32_run (w : World) : (Instr.build 25 #[]).run Tryd.prog w = .ok (.agg z32) w := by kernel_rfl
set_option maxRecDepth 1000000 in
set_option maxHeartbeats 16000000 in
theorem rhash_walk (a : Option Addr) (n cap : Nat) (bs S K : List Nat) (hb : ∀ d ∈ bs, d < 256) (hn : n ≤ 1048576) (hS8 : S.length = 8) (hS2 : ∀ d ∈ S, d < 4294967296) (hK8 : K.length = 64) (hK2 : ∀ d ∈ K, d < 4294967296) (w : World) (h : Sl .u8 w a n cap bs) :
    Calls Tryd.prog 22 #[.slice a n cap, .agg (nums .u32 S).toArray, .agg (nums .u32 K).toArray] w (HRes K S bs w) := by
  have hbody : Tryd.f22.body = some (Code.seq (headC ((Tryd.f22.body.bind (pickR 0)).getD .skip)) (.seq (headC ((Tryd.f22.body.bind (pickR 1)).getD .skip)) (.seq (headC ((Tryd.f22.body.bind (pickR 2)).getD .skip)) (.seq (headC ((Tryd.f22.body.bind (pickR 3)).getD .skip)) (.seq (headC ((Tryd.f22.body.bind (pickR 5)).getD .skip)) (.seq (headC ((Tryd.f22.body.bind (pickR 6)).getD .skip)) (.seq (headC ((Tryd.f22.body.bind (pickR 7)).getD .skip)) (.seq (headC ((Tryd.f22.body.bind (pickR 12)).getD .skip)) (.seq (headC ((Tryd.f22.body.bind (pickR 13)).getD .skip)) (.seq (headC ((Tryd.f22.body.bind (pickR 39)).getD .skip)) (.seq (headC ((Tryd.f22.body.bind (pickR 40)).getD .skip)) (.seq (headC ((Tryd.f22.body.bind (pickR 49)).getD .skip)) (.ret))))))))))))) := by kernel_rfl
  have HL := hid h.len
  have HI := hid h
  have HX := hid hb
  have HS2 := hid hS2
  have HK2 := hid hK2
  have A3 := alloc3h w (.cells (nums .u32 S).toArray 29) (.cells (nums .u32 K).toArray 30) (.cells #[.int .u8 0, .int .u8 0, .int .u8 0, .int .u8 0, .int .u8 0, .int .u8 0, .int .u8 0, .int .u8 0, .int .u8 0, .int .u8 0, .int .u8 0, .int .u8 0, .int .u8 0, .int .u8 0, .int .u8 0, .int .u8 0, .int .u8 0, .int .u8 0, .int .u8 0, .int .u8 0, .int .u8 0, .int .u8 0, .int .u8 0, .int .u8 0, .int .u8 0, .int .u8 0, .int .u8 0, .int .u8 0, .int .u8 0, .int .u8 0, .int .u8 0, .int .u8 0] 25)
  have A3' := hid A3
  clear A3 h hb hS2 hK2
  have hSA := hid (show (nums .u32 S).toArray.toList = nums .u32 S by simp)
  have hKA := hid (show (nums .u32 K).toArray.toList = nums .u32 K by simp)
  generalize (nums .u32 S).toArray = sA at *
  generalize (nums .u32 K).toArray = kA at *
  refine calls_of_wp Tryd.func22 hbody ?_
  clear hbody
  simp only [Tryd.ntmps22, List.size_toArray, List.length_cons, List.length_nil, Nat.reduceAdd, Nat.reduceSub, Array.replicate_succ,
     Array.replicate_zero, List.push_toArray, List.append_toArray, List.nil_append, List.cons_append]
  go_wp2
  conv => arg 2; whnf
  go_wp2
  generalize (((w.alloc (.cells sA 29)).alloc (.cells kA 30)).alloc (.cells #[.int .u8 0, .int .u8 0, .int .u8 0, .int .u8 0, .int .u8 0, .int .u8 0, .int .u8 0, .int .u8 0, .int .u8 0, .int .u8 0, .int .u8 0, .int .u8 0, .int .u8 0, .int .u8 0, .int .u8 0, .int .u8 0, .int .u8 0, .int .u8 0, .int .u8 0, .int .u8 0, .int .u8 0, .int .u8 0, .int .u8 0, .int .u8 0, .int .u8 0, .int .u8 0, .int .u8 0, .int .u8 0, .int .u8 0, .int .u8 0, .int .u8 0, .int .u8 0] 25)) = W3 at *
  obtain ⟨x0, x1, x2, x3, x4⟩ := A3'.out
  have hGs := hid x0
  have hGk := hid (own_of_heap (B := w.heap.size) (n := 64) (L := nums .u32 K) x1 hKA.out (by rw [nums_length]; exact hK8) (by omega) (by decide))
  have hG6 := hid x2
  have B3 := hid x4
  have o1 := World.ownsRow_made (base := W3.heap.size) (e := 5) (size := 1) W3 #[] 0 (Nat.le_refl _) (by simp) (by simp)
  have bb3 := hid ((Below.refl _ W3).alloc (Nat.le_refl _) (.cells #[] 5))
  have S1 := hid ((HI.out.below B3.out).below bb3.out)
  have O1 := hid o1
  generalize hg1 : w.heap.size + 1 = G1 at *
  generalize hg6 : G1 + 1 = G6 at *
  have l01 : w.heap.size < G1 := by omega
  have l16 : G1 < G6 := by omega
  have l63 : G6 < W3.heap.size := by omega
  have lw3 : w.heap.size ≤ W3.heap.size := by omega
  clear A3' x0 x1 x2 x3 x4 HI o1 hg1 hg6
  conv => arg 2; whnf
  go_wp2_with (at_builtin; refine wpList_cat rfl _ _ 22 rfl tyBs W3.heap.size O1.out rfl rfl S1.out (nums_oneCell _ _) ?c1 ?c2 ?c3 ?_)
  case c1 => omega
  case c2 => unfold maxLen; omega
  case c3 => simp
  intro v2 w2 own2 b2 hs2 _
  have B2 := hid (bb3.out.trans b2)
  have O2 := hid (show w2.ownsRow W3.heap.size 5 1 v2 bs.length (nums .u8 bs) by rw [HL.out]; simpa using own2)
  clear own2 b2 hs2 O1 bb3 S1
  have hB2s := hid B2.out.size
  have hbl : bs.length < 4294967296 := by rw [HL.out]; omega
  go_wp2
  conv => arg 2; whnf
  go_wp2_with (at_builtin; refine wpList_push rfl _ _ 22 rfl tyBs W3.heap.size O2.out rfl rfl rfl rfl hbl (by decide) hB2s.out ?_)
  intro v4 w4 own4 b4 hs4 _
  have O4 := hid (show w4.ownsRow W3.heap.size 5 1 v4 (bs ++ (128 :: List.replicate 0 0)).length (nums .u8 (bs ++ (128 :: List.replicate 0 0))) by
    rw [List.replicate_zero, List.length_append, List.length_singleton, ← nums_snoc .u8 (show (128 : Int) = ((128 : Nat) : Int) from rfl)]; exact own4)
  have B4 := hid (B2.out.trans b4)
  clear own4 b4 hs4 O2 B2 hB2s hbl
  go_wp2
  refine hpH HL.out hn O4.out B4.out.size ?_
  intro h40 h41 h42 h43 h44 h45 h46 v5 w5 o5 b5
  have O5 := hid o5
  have B5 := hid (B4.out.trans (b5.mono (Nat.le_refl _)))
  clear o5 b5 O4 B4
  obtain ⟨N8, hN8e⟩ : ∃ N8 : Nat, N8 = 8 * n := ⟨_, rfl⟩
  have e8 : 8 * (n : Int) = (N8 : Int) := by omega
  have hN8b : N8 < 18446744073709551616 := by omega
  have HN8 := hid hN8e
  clear hN8e
  go_wp2
  conv => arg 2; whnf
  go_wp2
  have O0 := hid (World.ownsRow_made (base := w5.heap.size) (e := 5) (size := 1) w5 #[] 0 (Nat.le_refl _) (by simp) (by simp))
  have b0 := hid ((Below.refl w5.heap.size w5).alloc (Nat.le_refl _) (.cells #[] 5))
  conv => arg 2; whnf
  go_wp2
  refine hpI hN8b (SlV.of_owns (xs := []) O0.out) ?_
  intro k8 k10 k52 k53 k54 k55 k56 k57 k58 k59 k60 k61 k62 k63 v7 w7 s7 b7
  have B7b := hid (b0.out.trans (b7.mono (by simp)))
  have O7 := hid (own_below O5.out B7b.out)
  have B7 := hid (B5.out.trans (B7b.out.mono B5.out.size))
  obtain ⟨a9, c9, rfl, s9⟩ := s7
  have hl8 : (beN 8 N8).length = 8 := beN_len 8 N8
  rw [hl8] at s9 ⊢
  have S9 := hid s9
  have hzN : zerosN n ≤ 64 := by unfold zerosN; split <;> omega
  obtain ⟨nz, hnz⟩ : ∃ nz : Nat, nz = n + 1 + zerosN n := ⟨_, rfl⟩
  rw [← hnz] at O7
  have HNZ := hid hnz
  have P0 := hid (show (bs ++ (128 :: List.replicate (zerosN n) 0)) ++ beN 8 N8 = bs ++ padN bs.length by
    rw [HL.out, padN_eq (by omega), HN8.out, List.append_assoc]; rfl)
  have hlP := hid (show (bs ++ padN bs.length).length = nz + 8 by rw [← P0.out, List.length_append, hl8]; congr 1; rw [HNZ.out]; simp [HL.out]; omega)
  have hnzb : nz ≤ 1048641 := by omega
  have hs7 := B7.out.size
  clear s9 b7 O5 B5 b0 B7b O0 hnz hzN
  go_wp2
  conv => arg 2; whnf
  go_wp2_with (at_builtin; refine wpList_cat rfl _ _ 22 rfl tyBs W3.heap.size O7.out rfl rfl S9.out (nums_oneCell _ _) ?c7 ?c8 ?c9 ?_)
  case c7 => omega
  case c8 => unfold maxLen; omega
  case c9 => exact hs7
  intro v8 w8 own8 b8 hs8 _
  rw [nums_append, P0.out] at own8
  have hP256 := hid (show ∀ d ∈ bs ++ padN bs.length, d < 256 from fun d hd => by
    rcases List.mem_append.1 hd with h | h
    · exact HX.out d h
    · rw [padN] at h
      rcases List.mem_cons.1 h with rfl | h
      · decide
      · rcases List.mem_append.1 h with h | h
        · rw [List.eq_of_mem_replicate h]; decide
        · exact beN_lt _ _ d h)
  have hNP := hid (show hashS K S bs = (runB K S (bs ++ padN bs.length) ((nz + 8) / 64)).flatMap bytes4 by rw [hashS, hlP.out])
  have hlP64 : (nz + 8) % 64 = 0 := by
    have h1 := HNZ.out
    rw [h1]
    unfold zerosN
    split <;> omega
  generalize bs ++ padN bs.length = P at *
  obtain ⟨LP, hLP⟩ : ∃ LP : Nat, LP = nz + 8 := ⟨_, rfl⟩
  rw [← hLP] at own8 hlP hNP hlP64
  have hLPb : LP < 8589934592 := by rw [hLP]; omega
  obtain ⟨a8, c8, rfl, _⟩ := Rd.of_owns own8
  have O8 := hid own8
  have B8 := hid (B7.out.trans b8)
  obtain ⟨gm, rfl, hLc8⟩ := own_addr O8.out (by omega)
  have hgm : W3.heap.size ≤ gm := (O8.out.lt gm rfl).1
  have HGK8 := hid (own_below hGk.out B8.out)
  have HG68 := hid (show w8.heap[G6]? = _ from (B8.out.block G6 l63).trans hG6.out)
  have HGS8 := hid (show w8.heap[w.heap.size]? = _ from (B8.out.block w.heap.size (by omega)).trans hGs.out)
  have HW8 := hid (B3.out.trans (B8.out.mono lw3))
  clear own8 b8 hs8 B7 P0 S9 O7 hs7 hLP HNZ HN8 hGk hG6 hGs B3
  go_wp2
  refine hpG (S := S) (K := K) O8.out hP256.out hlP64 hLPb hS8 HS2.out HGS8.out hSA.out HK2.out (fun n hn => (HGK8.out.cellAt n (by omega)).trans (nums_get .u32 (by omega))) (by omega) (by omega) ?_
  intro g11 g12 g13 g14 g15 g16 g17 g18 g19 g20 g21 g22 g23 g24 g25 g26 g27 g28 g29 g67 g68 g69 g70 g71 g72 g73 g74 g75 g76 g77 g78 g79 g80 g81 g82 g83 g84 g85 g86 g87 g88 g89 g90 g91 g92 g93 g94 g95 g96 g97 g98 g99 g100 g101 g102 g103 g104 g105 g106 g107 g108 g109 g110 g111 g112 g113 g114 g115 g116 g117 g118 g119 g120 g121 g122 g123 g124 g125 g126 g127 g128 g129 g130 g131 g132 g133 g134 g135 g136 g137 g138 g139 g140 g141 g142 g143 g144 g145 g146 g147 g148 g149 g150 g151 g152 g153 g154 g155 g156 g157 g158 g159 g160 g161 g162 g163 g164 g165 g166 g167 g168 g169 g170 g171 g172 g173 g174 g175 g176 g177 g178 g179 g180 g181 g182 g183 g184 g185 g186 g187 g188 g189 g190 g191 g192 g193 g194 g195 g196 g197 g198 g199 g200 g201 g202 g203 g204 g205 g206 g207 g208 g209 g210 g211 g212 g213 g214 g215 g216 g217 g218 g219 g220 g221 g222 g223 g224 g225 g226 g227 g228 g229 g230 g231 g232 g233 g234 g235 g236 g237 g238 g239 g240 g241 g242 g243 g244 g245 g246 g247 g248 g249 g250 g251 g252 g253 g254 g255 g256 g257 g258 g259 g260 g261 g262 g263 g264 g265 g266 g267 g268 g269 g270 g271 g272 g273 g274 g275 g276 g277 g278 g279 g280 g281 cur2 w9 g9 c9' f9
  have G9 := hid g9
  have C9 := hid c9'
  have HG69 := hid (show w9.heap[G6]? = _ from (f9.block G6 (by have := B8.out.size; omega) (by simp; omega)).trans HG68.out)
  have HW9 := hid (HW8.out.trans (f9.below (Nat.le_refl _) HW8.out.size))
  clear g9 c9' f9
  go_wp2
  have ZR := z32_run
  have hz := hid (heap_alloc_new w9 (.cells #[.int .u8 0, .int .u8 0, .int .u8 0, .int .u8 0, .int .u8 0, .int .u8 0, .int .u8 0, .int .u8 0, .int .u8 0, .int .u8 0, .int .u8 0, .int .u8 0, .int .u8 0, .int .u8 0, .int .u8 0, .int .u8 0, .int .u8 0, .int .u8 0, .int .u8 0, .int .u8 0, .int .u8 0, .int .u8 0, .int .u8 0, .int .u8 0, .int .u8 0, .int .u8 0, .int .u8 0, .int .u8 0, .int .u8 0, .int .u8 0, .int .u8 0, .int .u8 0] 25))
  have HWz := hid (HW9.out.trans ((Below.refl w9.heap.size w9).alloc (Nat.le_refl _) (.cells #[.int .u8 0, .int .u8 0, .int .u8 0, .int .u8 0, .int .u8 0, .int .u8 0, .int .u8 0, .int .u8 0, .int .u8 0, .int .u8 0, .int .u8 0, .int .u8 0, .int .u8 0, .int .u8 0, .int .u8 0, .int .u8 0, .int .u8 0, .int .u8 0, .int .u8 0, .int .u8 0, .int .u8 0, .int .u8 0, .int .u8 0, .int .u8 0, .int .u8 0, .int .u8 0, .int .u8 0, .int .u8 0, .int .u8 0, .int .u8 0, .int .u8 0, .int .u8 0] 25) |>.mono HW9.out.size))
  have G9z := hid (show (w9.alloc (.cells #[.int .u8 0, .int .u8 0, .int .u8 0, .int .u8 0, .int .u8 0, .int .u8 0, .int .u8 0, .int .u8 0, .int .u8 0, .int .u8 0, .int .u8 0, .int .u8 0, .int .u8 0, .int .u8 0, .int .u8 0, .int .u8 0, .int .u8 0, .int .u8 0, .int .u8 0, .int .u8 0, .int .u8 0, .int .u8 0, .int .u8 0, .int .u8 0, .int .u8 0, .int .u8 0, .int .u8 0, .int .u8 0, .int .u8 0, .int .u8 0, .int .u8 0, .int .u8 0] 25)).heap[w.heap.size]? = _ from (Below.heap_alloc w9 (.cells #[.int .u8 0, .int .u8 0, .int .u8 0, .int .u8 0, .int .u8 0, .int .u8 0, .int .u8 0, .int .u8 0, .int .u8 0, .int .u8 0, .int .u8 0, .int .u8 0, .int .u8 0, .int .u8 0, .int .u8 0, .int .u8 0, .int .u8 0, .int .u8 0, .int .u8 0, .int .u8 0, .int .u8 0, .int .u8 0, .int .u8 0, .int .u8 0, .int .u8 0, .int .u8 0, .int .u8 0, .int .u8 0, .int .u8 0, .int .u8 0, .int .u8 0, .int .u8 0] 25) _ (Array.getElem?_eq_some_iff.1 G9.out).1).trans G9.out)
  have H6z := hid (show (w9.alloc (.cells #[.int .u8 0, .int .u8 0, .int .u8 0, .int .u8 0, .int .u8 0, .int .u8 0, .int .u8 0, .int .u8 0, .int .u8 0, .int .u8 0, .int .u8 0, .int .u8 0, .int .u8 0, .int .u8 0, .int .u8 0, .int .u8 0, .int .u8 0, .int .u8 0, .int .u8 0, .int .u8 0, .int .u8 0, .int .u8 0, .int .u8 0, .int .u8 0, .int .u8 0, .int .u8 0, .int .u8 0, .int .u8 0, .int .u8 0, .int .u8 0, .int .u8 0, .int .u8 0] 25)).heap[G6]? = _ from (Below.heap_alloc w9 (.cells #[.int .u8 0, .int .u8 0, .int .u8 0, .int .u8 0, .int .u8 0, .int .u8 0, .int .u8 0, .int .u8 0, .int .u8 0, .int .u8 0, .int .u8 0, .int .u8 0, .int .u8 0, .int .u8 0, .int .u8 0, .int .u8 0, .int .u8 0, .int .u8 0, .int .u8 0, .int .u8 0, .int .u8 0, .int .u8 0, .int .u8 0, .int .u8 0, .int .u8 0, .int .u8 0, .int .u8 0, .int .u8 0, .int .u8 0, .int .u8 0, .int .u8 0, .int .u8 0] 25) _ (Array.getElem?_eq_some_iff.1 HG69.out).1).trans HG69.out)
  have hG6l := (Array.getElem?_eq_some_iff.1 HG69.out).1
  conv => arg 2; whnf
  go_wp2_with (refine wpList_store_row rfl _ _ _ rfl w9.heap.size z32 rfl rfl _ _ hz.out infoO rfl (by kernel_rfl) ?_)
  generalize w9.alloc (.cells #[.int .u8 0, .int .u8 0, .int .u8 0, .int .u8 0, .int .u8 0, .int .u8 0, .int .u8 0, .int .u8 0, .int .u8 0, .int .u8 0, .int .u8 0, .int .u8 0, .int .u8 0, .int .u8 0, .int .u8 0, .int .u8 0, .int .u8 0, .int .u8 0, .int .u8 0, .int .u8 0, .int .u8 0, .int .u8 0, .int .u8 0, .int .u8 0, .int .u8 0, .int .u8 0, .int .u8 0, .int .u8 0, .int .u8 0, .int .u8 0, .int .u8 0, .int .u8 0] 25) = wz at *
  have F1 : Far w9.heap.size wz (wz.setRow w9.heap.size z32) := ⟨rfl, rfl, rfl, by simp [World.setRow], fun k _ hk => setRow_other wz w9.heap.size k _ (by simpa using hk)⟩
  have h0lt := (Array.getElem?_eq_some_iff.1 G9.out).1
  have OZ := hid (setRow_heap wz w9.heap.size _ z32 _ _ hz.out)
  have GZ := hid (show (wz.setRow w9.heap.size z32).heap[w.heap.size]? = _ from (F1.block _ (Array.getElem?_eq_some_iff.1 G9z.out).1 (by simp; omega)).trans G9z.out)
  have SZ := hid (show (wz.setRow w9.heap.size z32).heap[G6]? = _ from (F1.block _ (Array.getElem?_eq_some_iff.1 H6z.out).1 (by simp; omega)).trans H6z.out)
  have BZ := hid (HWz.out.trans (F1.below HW9.out.size HWz.out.size))
  have hw9 := HW9.out.size
  clear F1 hz G9z H6z HWz ZR
  generalize wz.setRow w9.heap.size z32 = ws at *
  go_wp2
  refine hpE (runB_len hS8 _) (runB_lt HS2.out _) GZ.out C9.out OZ.out z32_list (by omega) ?_
  intro e31 e32 e33 e283 e284 e285 e286 e287 e288 e289 e290 e291 e292 e293 e294 e295 e296 e297 e298 e299 e300 e301 e302 e303 co w10 h10 c10 f10
  have H10 := hid h10
  have hcs : co.size = 32 := by rw [← Array.length_toList, c10, nums_length, ← hNP.out]; exact hash_len hS8
  have C10 := hid (show co = (nums .u8 (hashS K S bs)).toArray by rw [hNP.out, ← c10])
  have S10 := hid (show w10.heap[G6]? = _ from (f10.block _ (Array.getElem?_eq_some_iff.1 SZ.out).1 (by simp; omega)).trans SZ.out)
  have B10 := hid (BZ.out.trans (f10.below hw9 BZ.out.size))
  have i10 : (Tryd.prog.info? 25).map (·.size) = some co.size := by rw [hcs]; exact infoO
  have a10 : co.all (·.oneCell') = true := by rw [C10.out]; simp [nums, Value.oneCell']
  have g10 : (#[.int .u8 0, .int .u8 0, .int .u8 0, .int .u8 0, .int .u8 0, .int .u8 0, .int .u8 0, .int .u8 0, .int .u8 0, .int .u8 0, .int .u8 0, .int .u8 0, .int .u8 0, .int .u8 0, .int .u8 0, .int .u8 0, .int .u8 0, .int .u8 0, .int .u8 0, .int .u8 0, .int .u8 0, .int .u8 0, .int .u8 0, .int .u8 0, .int .u8 0, .int .u8 0, .int .u8 0, .int .u8 0, .int .u8 0, .int .u8 0, .int .u8 0, .int .u8 0] : Array Value).size = co.size := by rw [hcs]; rfl
  clear h10 c10 f10 hcs
  go_wp2
  conv => arg 2; whnf
  go_wp2_with (first | (refine wpList_load_row rfl _ _ rfl w9.heap.size rfl _ co _ _ H10.out Tryd.underlying25 rfl i10 ?_) | (refine wpList_store_row rfl _ _ _ rfl G6 co rfl rfl _ _ S10.out i10 g10 a10 ?_))
  refine bodyPost_ret (results_cell_row rfl _ _ G6 _ co _ _ rfl (setRow_heap w10 G6 _ co _ _ S10.out) Tryd.underlying25 rfl i10) rfl ?_
  exact ⟨by rw [C10.out]; rfl, below_setRow B10.out (by omega) _⟩
end Go.Proofs.YtpncdgogefhjlaaDoor
