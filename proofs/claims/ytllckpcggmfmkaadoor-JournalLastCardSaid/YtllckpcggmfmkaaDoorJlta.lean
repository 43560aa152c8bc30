/- The reference's Eight and Four. -/
import Derived.Test.YtllckpcggmfmkaaDoorJrec
import Derived.Test.YtllckpcggmfmkaaDoorJrra
import Derived.Test.YtllckpcggmfmkaaDoorRtag
namespace Go.Proofs.YtllckpcggmfmkaaDoor
open Go.RowKit

/-- a number's last bytes -/
def beT (u : Nat) : Nat → List Nat
  | 0 => []
  | i + 1 => (u / 256 ^ i % 256) :: beT u i
theorem beT_len (u : Nat) : ∀ i, (beT u i).length = i
  | 0 => rfl
  | i + 1 => congrArg (· + 1) (beT_len u i)
theorem beT8 (u : Nat) : beT u 8 = be8 u := rfl
theorem beT4 (u : Nat) : beT u 4 = be4 u := by
  show [u / 256 ^ 3 % 256, u / 256 ^ 2 % 256, u / 256 ^ 1 % 256, u / 256 ^ 0 % 256] = [u / 16777216 % 256, u / 65536 % 256, u / 256 % 256, u % 256]
  rw [Nat.pow_zero, Nat.div_one]
theorem own_one (w : World) (x : Value) (e : TypeId) : (w.alloc (.cells #[x] e)).ownsRow w.heap.size e 1 (.slice (some ⟨w.heap.size, 0, none⟩) 1 1) 1 [x] :=
  ⟨by simp, .inr ⟨w.heap.size, 1, #[x], rfl, Nat.le_refl _, heap_alloc_new w _, by decide, by decide, rfl, by simp⟩⟩
set_option maxRecDepth 100000 in
set_option maxHeartbeats 4000000 in
theorem reight_walk (u : Nat) (hu : u < 18446744073709551616) (w : World) : Calls Tryd.prog 10 #[.int .u64 (u : Int)] w (Own8 w (beT u 8)) := by
  have HU := hid hu
  have MD := hid (World.ownsRow_made w #[] 0 (base := w.heap.size) (e := 5) (size := 1) (Nat.le_refl _) (by simp) (by simp))
  have M0 := hid ((Below.refl w.heap.size w).alloc (Nat.le_refl _) (.cells #[] 5))
  clear hu
  go_enter Tryd.func10, Tryd.ntmps10
  go_upto_region 3 with (fail)
  go_loopw [0, 3, 4] (fun x0 x3 x4 wr => ∃ (j : Nat) (v3 : Value), v3 = x3 ∧ j ≤ 8 ∧ x4 = .int .i64 (j : Int) ∧ x0 = .int .u64 ((u / 256 ^ j : Nat) : Int) ∧ wr.ownsRow w.heap.size 5 1 v3 j (nums .u8 (beT u j)) ∧ Below w.heap.size w wr) (fun _ _ x4 _ => 8 - (intOf x4).toNat)
  case atStart => exact ⟨0, _, rfl, by decide, rfl, by simp, MD.out, M0.out⟩
  case round =>
    obtain ⟨j, v3, hv3, hj, rfl, rfl, ho, hb⟩ := hrel
    subst hv3
    have OW := hid ho
    have BB := hid hb
    obtain ⟨a3, c3, rfl, rd3⟩ := Rd.of_owns ho
    have RD3 := hid rd3
    clear ho hb rd3
    by_cases hlt : j < 8
    case neg =>
      obtain rfl : j = 8 := by omega
      clear hlt hj
      go_wp2_with (fail)
      go_ret
      exact ⟨_, rfl, by rw [beT_len]; exact OW.out, BB.out⟩
    have t1 : decide (j < 8) = true := decide_eq_true hlt
    have t2 : decide ((j : Int) < 8) = true := decide_eq_true (by omega)
    obtain ⟨A, hA⟩ : ∃ A, A = u / 256 ^ j := ⟨_, rfl⟩
    obtain ⟨D, hD⟩ : ∃ D, D = A % 256 := ⟨_, rfl⟩
    obtain ⟨A2, hA2⟩ : ∃ A2, A2 = A / 256 := ⟨_, rfl⟩
    obtain ⟨j1, hj1⟩ : ∃ j1, j1 = j + 1 := ⟨_, rfl⟩
    have hAl : A < 18446744073709551616 := by rw [hA]; exact Nat.lt_of_le_of_lt (Nat.div_le_self _ _) HU.out
    rw [← hA]
    have r1 : (A : Int).tmod 256 = (D : Int) := by rw [Int.tmod_eq_emod_of_nonneg (by omega)]; omega
    have r1' : (A : Int) % 256 = (D : Int) := by omega
    have r2 : (A : Int).tdiv 256 = (A2 : Int) := by rw [Int.tdiv_eq_ediv_of_nonneg (by omega)]; omega
    have r2' : (A : Int) / 256 = (A2 : Int) := by omega
    have r3 : IntKind.u64.wrap (D : Int) = (D : Int) := by rw [IntKind.wrap_u64]; omega
    have r4 : IntKind.u64.wrap (A2 : Int) = (A2 : Int) := by rw [IntKind.wrap_u64]; omega
    have r5 : IntKind.u8.wrap (D : Int) = (D : Int) := by rw [IntKind.wrap_u8]; omega
    have r6 : IntKind.i64.wrap ((j : Int) + 1) = (j1 : Int) := by rw [IntKind.wrap_i64]; omega
    have FF := hid (show A2 = u / 256 ^ j1 ∧ beT u j1 = D :: beT u j ∧ j1 = j + 1 ∧ j < 8 from ⟨by rw [hA2, hA, hj1, Nat.div_div_eq_div_mul, Nat.pow_succ], by rw [hj1, hD, hA]; rfl, hj1, hlt⟩)
    have NW := hid (own_one wr (.int .u8 (D : Int)) 5)
    have bw := hid ((Below.refl wr.heap.size wr).alloc (Nat.le_refl _) (.cells #[.int .u8 (D : Int)] 5))
    have RD4 := hid (show Rd _ 1 a3 j c3 (nums .u8 (beT u j)) from RD3.out.below bw.out)
    clear hA hD hA2 hj1 hlt hj hAl
    go_wp2_with (at_builtin; refine wpList_cat rfl _ _ 23 rfl tyBs wr.heap.size NW.out rfl rfl RD4.out (nums_oneCell _ _) (by have := FF.out; omega) (by have := FF.out; unfold maxLen; omega) bw.out.size ?_; intro v5 w5 own5 b5 hs5 _; have O5 := hid own5; have B5 := hid b5; clear own5 b5 hs5)
    go_roundw
    case rel =>
      refine ⟨j1, _, rfl, by have := FF.out; omega, rfl, by rw [FF.out.1], ?_, BB.out.trans ((bw.out.trans B5.out).mono BB.out.size)⟩
      have o := own_lowB O5.out BB.out.size
      rw [FF.out.2.1, FF.out.2.2.1, Nat.add_comm j 1]
      exact o
    case measure => simp [intOf]; have := FF.out; omega
set_option maxRecDepth 100000 in
set_option maxHeartbeats 4000000 in
theorem rfour_walk (u : Nat) (hu : u < 4294967296) (w : World) : Calls Tryd.prog 19 #[.int .i64 (u : Int)] w (Own8 w (beT u 4)) := by
  have HU := hid hu
  have MD := hid (World.ownsRow_made w #[] 0 (base := w.heap.size) (e := 5) (size := 1) (Nat.le_refl _) (by simp) (by simp))
  have M0 := hid ((Below.refl w.heap.size w).alloc (Nat.le_refl _) (.cells #[] 5))
  clear hu
  go_enter Tryd.func19, Tryd.ntmps19
  go_upto_region 3 with (fail)
  go_loopw [0, 3, 4] (fun x0 x3 x4 wr => ∃ (j : Nat) (v3 : Value), v3 = x3 ∧ j ≤ 4 ∧ x4 = .int .i64 (j : Int) ∧ x0 = .int .i64 ((u / 256 ^ j : Nat) : Int) ∧ wr.ownsRow w.heap.size 5 1 v3 j (nums .u8 (beT u j)) ∧ Below w.heap.size w wr) (fun _ _ x4 _ => 4 - (intOf x4).toNat)
  case atStart => exact ⟨0, _, rfl, by decide, rfl, by simp, MD.out, M0.out⟩
  case round =>
    obtain ⟨j, v3, hv3, hj, rfl, rfl, ho, hb⟩ := hrel
    subst hv3
    have OW := hid ho
    have BB := hid hb
    obtain ⟨a3, c3, rfl, rd3⟩ := Rd.of_owns ho
    have RD3 := hid rd3
    clear ho hb rd3
    by_cases hlt : j < 4
    case neg =>
      obtain rfl : j = 4 := by omega
      clear hlt hj
      go_wp2_with (fail)
      go_ret
      exact ⟨_, rfl, by rw [beT_len]; exact OW.out, BB.out⟩
    have t1 : decide (j < 4) = true := decide_eq_true hlt
    have t2 : decide ((j : Int) < 4) = true := decide_eq_true (by omega)
    obtain ⟨A, hA⟩ : ∃ A, A = u / 256 ^ j := ⟨_, rfl⟩
    obtain ⟨D, hD⟩ : ∃ D, D = A % 256 := ⟨_, rfl⟩
    obtain ⟨A2, hA2⟩ : ∃ A2, A2 = A / 256 := ⟨_, rfl⟩
    obtain ⟨j1, hj1⟩ : ∃ j1, j1 = j + 1 := ⟨_, rfl⟩
    have hAl : A < 4294967296 := by rw [hA]; exact Nat.lt_of_le_of_lt (Nat.div_le_self _ _) HU.out
    rw [← hA]
    have r1 : (A : Int).tmod 256 = (D : Int) := by rw [Int.tmod_eq_emod_of_nonneg (by omega)]; omega
    have r1' : (A : Int) % 256 = (D : Int) := by omega
    have r2 : (A : Int).tdiv 256 = (A2 : Int) := by rw [Int.tdiv_eq_ediv_of_nonneg (by omega)]; omega
    have r2' : (A : Int) / 256 = (A2 : Int) := by omega
    have r3 : IntKind.i64.wrap (D : Int) = (D : Int) := by rw [IntKind.wrap_i64]; omega
    have r4 : IntKind.i64.wrap (A2 : Int) = (A2 : Int) := by rw [IntKind.wrap_i64]; omega
    have r5 : IntKind.u8.wrap (D : Int) = (D : Int) := by rw [IntKind.wrap_u8]; omega
    have r6 : IntKind.i64.wrap ((j : Int) + 1) = (j1 : Int) := by rw [IntKind.wrap_i64]; omega
    have FF := hid (show A2 = u / 256 ^ j1 ∧ beT u j1 = D :: beT u j ∧ j1 = j + 1 ∧ j < 4 from ⟨by rw [hA2, hA, hj1, Nat.div_div_eq_div_mul, Nat.pow_succ], by rw [hj1, hD, hA]; rfl, hj1, hlt⟩)
    have NW := hid (own_one wr (.int .u8 (D : Int)) 5)
    have bw := hid ((Below.refl wr.heap.size wr).alloc (Nat.le_refl _) (.cells #[.int .u8 (D : Int)] 5))
    have RD4 := hid (show Rd _ 1 a3 j c3 (nums .u8 (beT u j)) from RD3.out.below bw.out)
    clear hA hD hA2 hj1 hlt hj hAl
    go_wp2_with (at_builtin; refine wpList_cat rfl _ _ 23 rfl tyBs wr.heap.size NW.out rfl rfl RD4.out (nums_oneCell _ _) (by have := FF.out; omega) (by have := FF.out; unfold maxLen; omega) bw.out.size ?_; intro v5 w5 own5 b5 hs5 _; have O5 := hid own5; have B5 := hid b5; clear own5 b5 hs5)
    go_roundw
    case rel =>
      refine ⟨j1, _, rfl, by have := FF.out; omega, rfl, by rw [FF.out.1], ?_, BB.out.trans ((bw.out.trans B5.out).mono BB.out.size)⟩
      have o := own_lowB O5.out BB.out.size
      rw [FF.out.2.1, FF.out.2.2.1, Nat.add_comm j 1]
      exact o
    case measure => simp [intOf]; have := FF.out; omega
end Go.Proofs.YtllckpcggmfmkaaDoor

/- The law's lay: a record of eight bytes onto a disk, by the page. -/
namespace Go.Proofs.YtllckpcggmfmkaaDoor
open Go.RowKit

theorem parts2 {wx : World} {P H n c : Nat} {t t' : TypeId} {a : Option Addr} {ah b : List Nat} (hP : wx.heap[P]? = some (.cells #[.slice (some ⟨H, 0, none⟩) 32 32, .slice a n c] t (0, 0))) (hH : wx.heap[H]? = some (.cells (nums .u8 ah).toArray t' (0, 0))) (h32 : ah.length = 32) (h8 : ∀ d ∈ ah, d < 256)
    (hb : Sl .u8 wx a n c b) (hb8 : ∀ d ∈ b, d < 256) (hn : n ≤ 140737488351232) : Parts wx (some ⟨P, 0, none⟩) 2 2 [⟨some ⟨H, 0, none⟩, 32, ah⟩, ⟨a, c, b⟩] := by
  have hl := hb.len
  refine ⟨⟨by simp [BS.cells], Nat.le_refl _, by decide, (fun e => nomatch e), P, 0, fun _ => rfl, fun j u hu => ?_⟩, rfl, fun l hl' => ?_⟩
  · have := gen_cell (j := j) (row_range (L := [.slice (some ⟨H, 0, none⟩) 32 32, .slice a n c]) hP) (v := u) (by simpa [BS.cells, h32, hl] using hu)
    simpa using this
  · simp only [List.mem_cons, List.not_mem_nil, or_false] at hl'
    rcases hl' with rfl | rfl
    · refine ⟨⟨by simp, by simp [h32], (show (32 : Nat) ≤ maxLen by decide), (fun e => nomatch e), H, 0, fun _ => rfl, fun j u hu => ?_⟩, h8, by simp [h32]⟩
      have := gen_cell (j := j) (row_range hH) hu
      simpa using this
    · exact ⟨by rw [show (BS.mk a c b).v.length = n from hl]; exact hb, hb8, by rw [show (BS.mk a c b).v.length = n from hl]; exact hn⟩
theorem hiT0 {tl : List Value} (htl : tl = nums .u32 (H0 ++ K0)) : (Tryd.prog.info? 34).map (·.size) = some tl.length := by
  have := tc_info (tc := tl.toArray) (by rw [htl])
  rw [List.size_toArray] at this
  exact this
def LlRes (w : World) (db Bd : Nat) (sd : Value) (C : List (List Nat)) (b : List Nat) (e : Ending) (w' : World) : Prop :=
  e = .returned (.tuple #[.agg (nums .u8 (recH z32 b)).toArray, .int .i64 1, .bool true]) ∧ DiskAt w' db Bd sd (.slice none 0 0) (layB C 0 (recB z32 b) 1) [] ∧ Keep (fun i => i = db ∨ sd.ownBlock = some i) w w'
set_option maxRecDepth 100000 in
set_option maxHeartbeats 8000000 in
theorem llay_walk {w : World} {db Bd : Nat} {sd : Value} {C : List (List Nat)} (h : DiskAt w db Bd sd (.slice none 0 0) C []) (hC : 1 ≤ C.length) (a : Option Addr) (c : Nat) (b : List Nat) (hb : Sl .u8 w a 8 c b) (hb8 : ∀ d ∈ b, d < 256) :
    Calls Tryd.prog 8 #[.pointer (some ⟨db, 0, none⟩), tabV, .int .i64 0, .agg (nums .u8 z32).toArray, .slice a 8 c] w (LlRes w db Bd sd C b) := by
  obtain ⟨tl, htc⟩ : ∃ tl : List Value, tl = nums .u32 (H0 ++ K0) := ⟨_, rfl⟩
  have hT : tabV = .agg tl.toArray := by rw [htc]; rfl
  rw [hT]
  have hiTl := hid (show (Tryd.prog.info? 34).map (·.size) = some tl.length from by have := hiT0 htc; exact this)
  have HTV := hid hT
  have hiT := hid (show (Tryd.prog.info? 34).map (·.size) = some tl.toArray.size from by rw [List.size_toArray]; exact hiT0 htc)
  obtain ⟨zz, hzz⟩ : ∃ zz : List Nat, zz = z32 := ⟨_, rfl⟩
  have ZH : ∀ w : World, (zeroValue 27).run Tryd.prog w = .ok (.agg (nums .u8 zz).toArray) w := by rw [hzz]; exact zv_of (by kernel_rfl)
  have lz := hid (show zz.length = 32 by rw [hzz]; rfl)
  have z8 := hid (show ∀ d ∈ zz, d < 256 by rw [hzz]; decide)
  rw [← hzz]
  have HZ := hid hzz
  have D0 := hid h
  have S0 := hid hb
  have B8 := hid hb8
  have HCL := hid hC
  have bl := hid (show b.length = 8 from hb.len)
  obtain ⟨W3, hW3⟩ : ∃ W3, W3 = ((w.alloc (.cells tl.toArray 34)).alloc (.cells (nums .u8 zz).toArray 27)).alloc (.cells (nums .u8 zz).toArray 27) := ⟨_, rfl⟩
  clear h hb hb8 hC hT htc hzz
  go_enter Tryd.func8, Tryd.ntmps8
  go_upto_region 1 with (fail)
  rw [← hW3]
  have e1 : (w.alloc (.cells tl.toArray 34)).heap.size = w.heap.size + 1 := by simp
  have e2 : ((w.alloc (.cells tl.toArray 34)).alloc (.cells (nums .u8 zz).toArray 27)).heap.size = w.heap.size + 1 + 1 := by simp
  have b1 := (Below.refl w.heap.size w).alloc (Nat.le_refl _) (.cells tl.toArray 34)
  have b2 := (Below.refl (w.alloc (.cells tl.toArray 34)).heap.size (w.alloc (.cells tl.toArray 34))).alloc (Nat.le_refl _) (.cells (nums .u8 zz).toArray 27)
  have b3 := (Below.refl ((w.alloc (.cells tl.toArray 34)).alloc (.cells (nums .u8 zz).toArray 27)).heap.size ((w.alloc (.cells tl.toArray 34)).alloc (.cells (nums .u8 zz).toArray 27))).alloc (Nat.le_refl _) (.cells (nums .u8 zz).toArray 27)
  rw [← hW3] at b3
  have HTb := hid (show W3.heap[w.heap.size]? = some (.cells tl.toArray 34 (0, 0)) from heap_keep (heap_keep (heap_alloc_new w _) b2) b3)
  have HHb := hid (show W3.heap[w.heap.size + 1]? = some (.cells (nums .u8 zz).toArray 27 (0, 0)) from by
    have := heap_alloc_new (w.alloc (.cells tl.toArray 34)) (.cells (nums .u8 zz).toArray 27)
    rw [e1] at this
    exact heap_keep this b3)
  have HRb := hid (show W3.heap[w.heap.size + 1 + 1]? = some (.cells (nums .u8 zz).toArray 27 (0, 0)) from by
    have := heap_alloc_new ((w.alloc (.cells tl.toArray 34)).alloc (.cells (nums .u8 zz).toArray 27)) (.cells (nums .u8 zz).toArray 27)
    rw [e2, ← hW3] at this
    exact this)
  have BW := hid (show Below w.heap.size w W3 from (b1.trans (b2.mono (by rw [e1]; omega))).trans (b3.mono (by rw [e2]; omega)))
  have D3 := hid (D0.out.below BW.out)
  have S3 := hid (S0.out.below BW.out)
  have z3 := (Array.getElem?_eq_some_iff.1 HRb.out).1
  have Z3 := hid z3
  clear hW3 e1 e2 b1 b2 b3 z3
  have rT := hid (row_range HTb.out)
  rename_i K2 a2
  have A2 := hid a2
  clear a2
  obtain ⟨rc, hrc⟩ : ∃ rc, rc = recH zz b := ⟨_, rfl⟩
  have RC := hid hrc
  have LR := hid (show rc.length = 32 by rw [hrc, recH_len])
  clear hrc
  have hi6 := hid (show (Tryd.prog.info? 27).map (·.size) = some (nums .u8 rc).toArray.size by rw [List.size_toArray, nums_length, LR.out]; kernel_rfl)
  have hiL := hid (show (Tryd.prog.info? 27).map (·.size) = some (nums .u8 rc).length by rw [nums_length, LR.out]; kernel_rfl)
  have h16 := hid (all_oneCell_toArray (nums_oneCell .u8 rc))
  have hsz := hid (show (nums .u8 rc).toArray.size = 32 by rw [List.size_toArray, nums_length, LR.out])
  have hoZ := hid (show (nums .u8 zz).toArray.size = (nums .u8 rc).toArray.size by rw [hsz.out, List.size_toArray, nums_length, lz.out])
  have MID : ∀ (V : Nat) (u16 u17 u18 u19 u20 : Value) (wz : World), wz.heap[V]? = some (.cells (nums .u8 rc).toArray 27 (0, 0)) → W3.heap.size ≤ V → Below W3.heap.size W3 wz →
      K2 ⟨List.toArray (.pointer (some ⟨db, 0, none⟩) :: .agg tl.toArray :: .int .i64 0 :: .agg (nums .u8 zz).toArray :: .slice a 8 c :: undef :: .pointer (some ⟨w.heap.size, 0, none⟩) :: undef :: .pointer (some ⟨w.heap.size + 1, 0, none⟩) :: undef :: .pointer (some ⟨w.heap.size + 1 + 1, 0, none⟩) :: .int .i64 0 :: .bool false :: .pointer (some ⟨V, 0, none⟩) :: undef :: undef :: u16 :: u17 :: u18 :: u19 :: u20 :: List.replicate 42 undef), []⟩ wz := by
    intro V u16 u17 u18 u19 u20 wz hv hVl hb
    have HV := hid hv
    have VL := hid hVl
    have BZ := hid hb
    have SH := fun (wx : World) (bx : Below wz.heap.size wz wx) => hid (show Rd wx 1 (some ⟨V, 0, none⟩) 32 32 (nums .u8 rc) from ⟨by rw [nums_length, LR.out], Nat.le_refl _, (show (32 : Nat) ≤ maxLen by decide), (fun e => nomatch e), V, 0, fun _ => rfl, fun j u hu => by have := gen_cell (j := j) (row_range (heap_keep HV.out bx)) hu; simpa using this⟩)
    refine A2.out _ _ ?_
    clear hv hVl hb A2
    simp only [List.replicate_succ, List.replicate_zero]
    go_upto_region 2 with (fail)
    refine wp_region_held_drew (S := fun _ => True) (by kernel_rfl) (trivial) (fun hHeld => ?_)
    try simp only [List.size_toArray, List.length_cons, List.length_nil, Nat.reduceAdd, Array.replicate_succ, Array.replicate_zero, List.push_toArray, List.nil_append, List.cons_append]
    refine wpAnyH_take (i := 0) (oi := { dst := some 21, op := Op.move (Operand.tmp 4), type := 23, pos := "law.go:250", after := #[], guard := none }) (v := ?v1001) rfl (by kernel_rfl) (by kernel_rfl) (by kernel_rfl) (fun _ _ _ h => h) (Or.inl ⟨by rfl, ?hy1001⟩) hHeld ?_
    case hy1001 => (intro w hSw; (try dsimp only at hSw); go_simp; (try with_reducible rfl))
    (try simp only [Act.put, List.setIfInBounds_toArray, List.set_cons_zero, List.set_cons_succ])
    refine wpAnyH_take (i := 1) (oi := { dst := some 22, op := Op.call { callee := Callee.builtin Builtin.len, args := #[Operand.tmp 21], argTypes := #[23] }, type := 3, pos := "law.go:250", after := #[{ on := 0, ground := Ground.data }], guard := none }) (v := (.int .i64 8)) rfl (by kernel_rfl) (by kernel_rfl) (by kernel_rfl) (fun _ _ _ h => h) (Or.inl ⟨by rfl, fun w _ => by go_simp⟩) hHeld ?_
    (try simp only [Act.put, List.setIfInBounds_toArray, List.set_cons_zero, List.set_cons_succ])
    refine wpAnyH_take (i := 3) (oi := { dst := some 24, op := Op.slice 27 (Operand.tmp 13) none none none, type := 23, pos := "law.go:250", after := #[], guard := none }) (v := ?v1002) rfl (by kernel_rfl) (by kernel_rfl) (by kernel_rfl) (fun _ _ _ h => h) (Or.inl ⟨by rfl, ?hy1002⟩) hHeld ?_
    case hy1002 => (intro w hSw; (try dsimp only at hSw); go_simp; (try with_reducible rfl))
    (try simp only [Act.put, List.setIfInBounds_toArray, List.set_cons_zero, List.set_cons_succ])
    refine wpAnyH_take (i := 5) (oi := { dst := some 26, op := Op.move (Operand.tmp 4), type := 23, pos := "law.go:250", after := #[], guard := none }) (v := ?v1003) rfl (by kernel_rfl) (by kernel_rfl) (by kernel_rfl) (fun _ _ _ h => h) (Or.inl ⟨by rfl, ?hy1003⟩) hHeld ?_
    case hy1003 => (intro w hSw; (try dsimp only at hSw); go_simp; (try with_reducible rfl))
    (try simp only [Act.put, List.setIfInBounds_toArray, List.set_cons_zero, List.set_cons_succ])
    refine wpAnyH_ready (rs := [2]) (by kernel_rfl) (by simp) ?_
    refine AllReadyH.cons (o := { dst := some 23, op := Op.call { callee := Callee.value (Operand.func 19), args := #[Operand.tmp 22], argTypes := #[3] }, type := 23, pos := "law.go:250", after := #[{ on := 1, ground := Ground.data }], guard := none }) rfl (fun K hK => ?_) ?_
    go_simp; refine (rfour_walk 8 (by decide) _).mono ?_; rintro e w4 ⟨v4, rfl, o4, b4⟩; rw [beT_len] at o4; have O4 := hid o4; have B4 := hid (show Below wz.heap.size wz w4 from (Below.refl wz.heap.size wz).drew.trans b4); clear o4 b4
    refine hK.out _ _ (trivial) (fun hHeld => ?_)
    clear hK K
    (try simp only [List.setIfInBounds_toArray, List.set_cons_zero, List.set_cons_succ])
    refine wpAnyH_ready (rs := [4]) (by kernel_rfl) (by simp) ?_
    refine AllReadyH.cons (o := { dst := some 25, op := Op.call { callee := Callee.builtin Builtin.append, args := #[Operand.tmp 23, Operand.tmp 24], argTypes := #[23, 23] }, type := 23, pos := "law.go:250", after := #[{ on := 2, ground := Ground.data }, { on := 3, ground := Ground.data }, { on := 2, ground := Ground.chain }], guard := none }) rfl (fun K hK => ?_) ?_
    rw [if_pos (by rfl)]; refine wp_cat _ _ _ rfl tyBs wz.heap.size O4.out rfl rfl (SH _ B4.out).out (nums_oneCell _ _) (by decide) (by decide) B4.out.size ?_; intro v5 w5 own5 g5 nb5; have O5 := hid own5; have B5 := hid (show Below wz.heap.size wz w5 from B4.out.trans ((Keep.grown g5 (S := fun i => v4.ownBlock = some i) (fun _ h => h)).below (fun i hi => (O4.out.lt _ hi).1) B4.out.size)); clear own5 g5 nb5
    refine hK.out _ _ (trivial) (fun hHeld => ?_)
    clear hK K
    (try simp only [List.setIfInBounds_toArray, List.set_cons_zero, List.set_cons_succ])
    refine wpAnyH_ready (rs := [6]) (by kernel_rfl) (by simp) ?_
    refine AllReadyH.cons (o := { dst := some 27, op := Op.call { callee := Callee.builtin Builtin.append, args := #[Operand.tmp 25, Operand.tmp 26], argTypes := #[23, 23] }, type := 23, pos := "law.go:250", after := #[{ on := 4, ground := Ground.data }, { on := 5, ground := Ground.data }, { on := 4, ground := Ground.chain }], guard := none }) rfl (fun K hK => ?_) ?_
    rw [if_pos (by rfl)]; refine wp_cat _ _ _ rfl tyBs wz.heap.size O5.out rfl rfl (S3.out.below (BZ.out.trans (B5.out.mono BZ.out.size))) (nums_oneCell _ _) (by decide) (by decide) B5.out.size ?_; intro v6 w6 own6 g6 nb6; have O6 := hid own6; have B6 := hid (show Below wz.heap.size wz w6 from B5.out.trans ((Keep.grown g6 (S := fun i => v5.ownBlock = some i) (fun _ h => h)).below (fun i hi => (O5.out.lt _ hi).1) B5.out.size)); clear own6 g6 nb6
    refine hK.out _ _ (trivial) (fun hHeld => ?_)
    clear hK K
    (try simp only [List.setIfInBounds_toArray, List.set_cons_zero, List.set_cons_succ])
    refine wpAnyH_take (i := 7) (oi := { dst := some 14, op := Op.assign (Operand.tmp 27), type := 23, pos := "law.go:250", after := #[{ on := 6, ground := Ground.data }, { on := 6, ground := Ground.chain }, { on := 0, ground := Ground.phase }, { on := 1, ground := Ground.phase }, { on := 2, ground := Ground.phase }, { on := 3, ground := Ground.phase }, { on := 4, ground := Ground.phase }, { on := 5, ground := Ground.phase }, { on := 6, ground := Ground.phase }], guard := none }) (v := ?v1004) rfl (by kernel_rfl) (by kernel_rfl) (by kernel_rfl) (fun _ _ _ h => h) (Or.inl ⟨by rfl, ?hy1004⟩) hHeld ?_
    case hy1004 => (intro w hSw; (try dsimp only at hSw); go_simp; (try with_reducible rfl))
    (try simp only [Act.put, List.setIfInBounds_toArray, List.set_cons_zero, List.set_cons_succ])
    refine wpAnyH_done (by kernel_rfl) ?_ _
    rotate_left
    exact AllReadyH.nil
    exact AllReadyH.nil
    exact AllReadyH.nil
    clear hHeld
    obtain ⟨xs0, hxs⟩ : ∃ xs0, xs0 = beT 8 4 ++ (rc ++ b) := ⟨_, rfl⟩
    have OX := hid (show w6.ownsRow wz.heap.size 5 1 v6 44 (nums .u8 xs0) from by
      have o := O6.out
      rw [hxs, ← nums_append, ← nums_append, ← List.append_assoc]
      exact o)
    have RB := hid (show recB zz b = xs0 ++ List.replicate 20 0 from by
      unfold recB padTo
      rw [← RC.out, bl.out, hxs, show be4 8 = beT 8 4 from by decide]
      rw [show (64 - (beT 8 4 ++ (rc ++ b)).length % 64) % 64 = 20 from by rw [List.length_append, List.length_append, beT_len, LR.out, bl.out]])
    have X8 := hid (show ∀ d ∈ recB zz b, d < 256 from recB_lt zz b B8.out)
    clear hxs O4 O5 O6 B4 B5
    go_upto_region 3 with (fail)
    go_loopw [14] (fun x14 wr => ∃ j m1 : Nat, m1 = 44 + j ∧ j ≤ 20 ∧ wr.ownsRow wz.heap.size 5 1 x14 m1 (nums .u8 (xs0 ++ List.replicate j 0)) ∧ Below wz.heap.size wz wr) (fun x14 _ => 64 - lenV x14)
    case atStart => exact ⟨0, 44, rfl, Nat.zero_le _, by rw [List.replicate_zero, List.append_nil]; exact OX.out, B6.out⟩
    case round =>
      obtain ⟨j, m1, hm1, hj, ho, hbr⟩ := hrel
      obtain ⟨g, c8, rfl⟩ := own_sliceJ ho (by omega)
      have OW := hid ho
      have BB := hid hbr
      clear ho hbr
      by_cases hlt : j = 20
      case neg =>
        have r1 : ((m1 : Nat) : Int).tmod 64 = (m1 : Int) := by rw [Int.tmod_eq_emod_of_nonneg (by omega)]; omega
        have r2 : ((m1 : Int) == 0) = false := by rw [beq_eq_false_iff_ne]; omega
        have M1 := hid (show m1 = 44 + j ∧ j < 20 by omega)
        clear hm1 hlt hj
        go_wp2_with (at_builtin; refine wpList_push rfl _ _ 23 rfl tyBs wz.heap.size OW.out rfl rfl rfl rfl (by have := M1.out; omega) (by decide) BB.out.size ?_; intro v9 w9 own9 b9 hs9 _; have O9 := hid own9; have B9 := hid b9; clear own9 b9 hs9)
        go_roundw
        case rel => exact ⟨j + 1, m1 + 1, by have := M1.out; omega, by have := M1.out; omega, by
          have o := O9.out
          rw [List.replicate_succ', ← List.append_assoc, ← nums_append]
          exact o, BB.out.trans B9.out⟩
        case measure => obtain ⟨g9, c9, rfl⟩ := own_sliceJ O9.out (by omega); simp only [lenV]; have := M1.out; omega
      case pos =>
        subst hlt
        obtain rfl : m1 = 64 := by omega
        clear hm1 hj
        have SW := hid (show Sl .u8 wr (some ⟨g, 0, none⟩) 64 c8 (recB zz b) from by
          obtain ⟨a', c', e, hr⟩ := Rd.of_owns OW.out
          simp only [Value.slice.injEq] at e
          obtain ⟨rfl, _, rfl⟩ := e
          rw [RB.out]
          exact hr)
        have h64 : 64 ≤ c8 := SW.out.2.1
        have s1 : ¬ (c8 = 0) := by omega
        have s2 : (64 : Int) ≤ (c8 : Int) := by omega
        have BWr := hid (show Below W3.heap.size W3 wr from BZ.out.trans (BB.out.mono BZ.out.size))
        have DW := hid (D3.out.below BWr.out)
        have HVr := hid (heap_keep HV.out BB.out)
        have HRr := hid (heap_keep HRb.out BWr.out)
        have RL := hid (show (recB zz b).length = 64 by rw [recB_len, bl.out])
        clear OW OX
        go_upto_region 6 with (fail)
        go_loopw [15] (fun x15 wx => (x15 = .int .i64 0 ∧ wx = wr) ∨ (x15 = .int .i64 64 ∧ ∃ qv v, DiskAt wx db Bd sd qv C [⟨0, v, recB zz b⟩] ∧ Keep (fun i => i = db) wr wx)) (fun x15 _ => 64 - (intOf x15).toNat)
        case atStart => exact .inl ⟨rfl, rfl⟩
        case round =>
          rcases hrel with ⟨rfl, rfl⟩ | ⟨rfl, qv, v, hd, hk⟩
          · go_wp2_with (fail)
            refine (dwrite_walk DW.out 0 (by have := HCL.out; omega) _ _ (recB zz b) SW.out X8.out (by decide)).mono ?_
            rintro e w7 hw7
            obtain ⟨rfl, ⟨qv, v, hd, _⟩, hk⟩ := hw7
            have D7 := hid hd
            have K7 := hid hk
            clear hd hk
            go_wp2_with (fail)
            go_roundw
            case rel => exact .inr ⟨rfl, qv, v, D7.out, K7.out.mono (fun i h => by rcases h with h | h; exact h; cases h)⟩
            case measure => simp [intOf]
          · have D7 := hid hd
            have K7 := hid hk
            clear hd hk
            go_upto_region 10 with (fail)
            have lt0 := D0.out.lt
            have vl := VL.out
            have wz3 := Z3.out
            have bws := BW.out.size
            have sdl : ∀ g, sd.ownBlock = some g → g < w.heap.size := fun g e => by obtain ⟨vs', o', _⟩ := D0.out.sure; exact (o'.lt _ e).2
            have hnV := hid (show ¬ (V = db ∨ sd.ownBlock = some V) from fun e => by
              rcases e with e | e
              · omega
              · have := sdl _ e; omega)
            have hnR := hid (show ¬ (w.heap.size + 1 + 1 = db ∨ sd.ownBlock = some (w.heap.size + 1 + 1)) from fun e => by
              rcases e with e | e
              · omega
              · have := sdl _ e; omega)
            have hVR := hid (show V ≠ w.heap.size + 1 + 1 by omega)
            have HV7 := hid (K7.out.heap HVr.out (fun e => hnV.out (.inl e)))
            have HR7 := hid (K7.out.heap HRr.out (fun e => hnR.out (.inl e)))
            have KA := hid ((Keep.of (S := fun i => i = db ∨ sd.ownBlock = some i) (BW.out.trans (BWr.out.mono bws))).trans (K7.out.mono (fun i h => .inl h)))
            refine wp_region_held_drew (S := fun w' => w'.rangeAt V 0 (nums .u8 rc) ∧ ∃ cs, w'.heap[w.heap.size + 1 + 1]? = some (.cells cs 27 (0, 0)) ∧ cs.size = 32) (by kernel_rfl) (⟨row_range HV7.out, _, HR7.out, by rw [List.size_toArray, nums_length, lz.out]⟩) (fun hHeld => ?_)
            try simp only [List.size_toArray, List.length_cons, List.length_nil, Nat.reduceAdd, Array.replicate_succ, Array.replicate_zero, List.push_toArray, List.nil_append, List.cons_append]
            refine' wpAnyH_take (i := 0) (oi := { dst := some 54, op := Op.load 27 (Operand.tmp 13), type := 27, pos := "law.go:259", after := #[], guard := none }) (v := _) rfl (by kernel_rfl) (by kernel_rfl) (by kernel_rfl) (fun _ _ _ h => h) (yieldsIf_load_mid (by rfl) _ _ rfl V 0 rfl (nums .u8 rc) _ (fun _ h => h.1) Tryd.underlying27 rfl hiL.out) hHeld ?_
            (try simp only [Act.put, List.setIfInBounds_toArray, List.set_cons_zero, List.set_cons_succ])
            refine wpAnyH_take (i := 1) (oi := { dst := some 55, op := Op.move (Operand.tmp 2), type := 3, pos := "law.go:259", after := #[{ on := 9, ground := Ground.gcOnly Departure.lateStores }], guard := none }) (v := ?v2001) rfl (by kernel_rfl) (by kernel_rfl) (by kernel_rfl) (fun _ _ _ h => h) (Or.inl ⟨by rfl, ?hy2001⟩) hHeld ?_
            case hy2001 => (intro w hSw; (try dsimp only at hSw); go_simp; (try with_reducible rfl))
            (try simp only [Act.put, List.setIfInBounds_toArray, List.set_cons_zero, List.set_cons_succ])
            refine wpAnyH_take (i := 2) (oi := { dst := some 56, op := Op.move (Operand.tmp 14), type := 23, pos := "law.go:259", after := #[], guard := none }) (v := ?v2002) rfl (by kernel_rfl) (by kernel_rfl) (by kernel_rfl) (fun _ _ _ h => h) (Or.inl ⟨by rfl, ?hy2002⟩) hHeld ?_
            case hy2002 => (intro w hSw; (try dsimp only at hSw); go_simp; (try with_reducible rfl))
            (try simp only [Act.put, List.setIfInBounds_toArray, List.set_cons_zero, List.set_cons_succ])
            refine wpAnyH_take (i := 3) (oi := { dst := some 57, op := Op.call { callee := Callee.builtin Builtin.len, args := #[Operand.tmp 56], argTypes := #[23] }, type := 3, pos := "law.go:259", after := #[{ on := 2, ground := Ground.data }], guard := none }) (v := (.int .i64 64)) rfl (by kernel_rfl) (by kernel_rfl) (by kernel_rfl) (fun _ _ _ h => h) (Or.inl ⟨by rfl, fun w _ => by go_simp⟩) hHeld ?_
            (try simp only [Act.put, List.setIfInBounds_toArray, List.set_cons_zero, List.set_cons_succ])
            refine wpAnyH_take (i := 4) (oi := { dst := some 58, op := Op.binOp BinOp.quo 3 (Operand.tmp 57) (Operand.const (Value.int IntKind.i64 64)) 3, type := 3, pos := "law.go:259", after := #[{ on := 3, ground := Ground.data }, { on := 9, ground := Ground.gcOnly Departure.lateStores }], guard := none }) (v := ?v2003) rfl (by kernel_rfl) (by kernel_rfl) (by kernel_rfl) (fun _ _ _ h => h) (Or.inl ⟨by rfl, ?hy2003⟩) hHeld ?_
            case hy2003 => (intro w hSw; (try dsimp only at hSw); go_simp; (try with_reducible rfl))
            (try simp only [Act.put, List.setIfInBounds_toArray, List.set_cons_zero, List.set_cons_succ])
            refine wpAnyH_take (i := 5) (oi := { dst := some 59, op := Op.binOp BinOp.add 3 (Operand.tmp 55) (Operand.tmp 58) 3, type := 3, pos := "law.go:259", after := #[{ on := 1, ground := Ground.data }, { on := 4, ground := Ground.data }, { on := 9, ground := Ground.gcOnly Departure.lateStores }], guard := none }) (v := ?v2004) rfl (by kernel_rfl) (by kernel_rfl) (by kernel_rfl) (fun _ _ _ h => h) (Or.inl ⟨by rfl, ?hy2004⟩) hHeld ?_
            case hy2004 => (intro w hSw; (try dsimp only at hSw); go_simp; (try with_reducible rfl))
            (try simp only [Act.put, List.setIfInBounds_toArray, List.set_cons_zero, List.set_cons_succ])
            refine wpAnyH_take (i := 6) (oi := { dst := some 60, op := Op.move (Operand.tmp 0), type := 25, pos := "law.go:259", after := #[], guard := none }) (v := ?v2005) rfl (by kernel_rfl) (by kernel_rfl) (by kernel_rfl) (fun _ _ _ h => h) (Or.inl ⟨by rfl, ?hy2005⟩) hHeld ?_
            case hy2005 => (intro w hSw; (try dsimp only at hSw); go_simp; (try with_reducible rfl))
            (try simp only [Act.put, List.setIfInBounds_toArray, List.set_cons_zero, List.set_cons_succ])
            refine wpAnyH_ready (rs := [7]) (by kernel_rfl) (by simp) ?_
            refine AllReadyH.cons (o := { dst := some 61, op := Op.call { callee := Callee.value (Operand.func 21), args := #[Operand.tmp 60], argTypes := #[25] }, type := 38, pos := "law.go:259", after := #[{ on := 6, ground := Ground.data }], guard := none }) rfl (fun K hK => ?_) ?_
            go_simp; refine (dsync_walk (D7.out.below (Below.refl _ _).drew) (show 1 < 4294967296 by decide)).mono ?_; rintro e w8 ⟨rfl, s8⟩; have S8 := hid s8; clear s8
            refine hK.out _ _ (⟨S8.out.keep.range hHeld.1 hnV.out, hHeld.2.elim fun cs h => ⟨cs, S8.out.keep.heap h.1 hnR.out, h.2⟩⟩) (fun hHeld => ?_)
            clear hK K
            (try simp only [List.setIfInBounds_toArray, List.set_cons_zero, List.set_cons_succ])
            refine wpAnyH_take (i := 8) (oi := { dst := some 62, op := Op.binOp BinOp.eql 38 (Operand.tmp 61) (Operand.const (Value.int IntKind.i64 0)) 38, type := 4, pos := "law.go:259", after := #[{ on := 7, ground := Ground.data }, { on := 10, ground := Ground.gcOnly Departure.lateStores }], guard := none }) (v := ?v2006) rfl (by kernel_rfl) (by kernel_rfl) (by kernel_rfl) (fun _ _ _ h => h) (Or.inl ⟨by rfl, ?hy2006⟩) hHeld ?_
            case hy2006 => (intro w hSw; (try dsimp only at hSw); go_simp; (try with_reducible rfl))
            (try simp only [Act.put, List.setIfInBounds_toArray, List.set_cons_zero, List.set_cons_succ])
            refine wpAnyH_ready (rs := [9]) (by kernel_rfl) (by simp) ?_
            refine AllReadyH.cons (o := { dst := none, op := Op.store 27 (Operand.tmp 10) (Operand.tmp 54), type := 0, pos := "law.go:259", after := #[{ on := 0, ground := Ground.data }, { on := 7, ground := Ground.chain }, { on := 0, ground := Ground.phase }, { on := 1, ground := Ground.textOnly Departure.lateStores }, { on := 2, ground := Ground.textOnly Departure.lateStores }, { on := 3, ground := Ground.textOnly Departure.lateStoresUnsure }, { on := 4, ground := Ground.textOnly Departure.lateStores }, { on := 5, ground := Ground.textOnly Departure.lateStores }, { on := 6, ground := Ground.textOnly Departure.lateStores }, { on := 7, ground := Ground.textOnly Departure.lateStoresUnsure }, { on := 8, ground := Ground.textOnly Departure.lateStores }], guard := none }) rfl (fun K hK => ?_) ?_
            obtain ⟨cs, hcs, hcl⟩ := hHeld.2; have HCS := hid hcs; rw [if_pos (by rfl)]; refine wp_store_row _ _ _ rfl _ (nums .u8 rc).toArray rfl rfl _ _ hcs hi6.out (hcl.trans hsz.out.symm) h16.out ?_
            refine hK.out _ _ (⟨range_far (far_row _ _ _) hHeld.1 hVR.out, _, setRow_heap _ _ _ _ _ _ hcs, hsz.out⟩) (fun hHeld => ?_)
            clear hK K
            (try simp only [List.setIfInBounds_toArray, List.set_cons_zero, List.set_cons_succ])
            refine wpAnyH_take (i := 10) (oi := { dst := some 11, op := Op.assign (Operand.tmp 59), type := 3, pos := "law.go:259", after := #[{ on := 5, ground := Ground.data }, { on := 9, ground := Ground.chain }, { on := 0, ground := Ground.phase }, { on := 1, ground := Ground.phase }, { on := 2, ground := Ground.phase }, { on := 3, ground := Ground.phase }, { on := 4, ground := Ground.phase }, { on := 5, ground := Ground.phase }, { on := 6, ground := Ground.textOnly Departure.lateStores }, { on := 7, ground := Ground.textOnly Departure.lateStoresUnsure }, { on := 8, ground := Ground.textOnly Departure.lateStores }, { on := 9, ground := Ground.phase }], guard := none }) (v := ?v2007) rfl (by kernel_rfl) (by kernel_rfl) (by kernel_rfl) (fun _ _ _ h => h) (Or.inl ⟨by rfl, ?hy2007⟩) hHeld ?_
            case hy2007 => (intro w hSw; (try dsimp only at hSw); go_simp; (try with_reducible rfl))
            (try simp only [Act.put, List.setIfInBounds_toArray, List.set_cons_zero, List.set_cons_succ])
            refine wpAnyH_take (i := 11) (oi := { dst := some 12, op := Op.assign (Operand.tmp 62), type := 4, pos := "law.go:259", after := #[{ on := 8, ground := Ground.data }, { on := 10, ground := Ground.chain }, { on := 0, ground := Ground.phase }, { on := 1, ground := Ground.phase }, { on := 2, ground := Ground.phase }, { on := 3, ground := Ground.phase }, { on := 4, ground := Ground.phase }, { on := 5, ground := Ground.phase }, { on := 6, ground := Ground.phase }, { on := 7, ground := Ground.phase }, { on := 8, ground := Ground.phase }, { on := 9, ground := Ground.phase }, { on := 10, ground := Ground.phase }], guard := none }) (v := ?v2008) rfl (by kernel_rfl) (by kernel_rfl) (by kernel_rfl) (fun _ _ _ h => h) (Or.inl ⟨by rfl, ?hy2008⟩) hHeld ?_
            case hy2008 => (intro w hSw; (try dsimp only at hSw); go_simp; (try with_reducible rfl))
            (try simp only [Act.put, List.setIfInBounds_toArray, List.set_cons_zero, List.set_cons_succ])
            refine wpAnyH_done (by kernel_rfl) ?_ _
            rotate_left
            exact AllReadyH.nil
            exact AllReadyH.nil
            all_goals
              go_wp2_with (fail)
              refine bodyPost_ret (results_cell_tmp2 rfl _ _ (w.heap.size + 1 + 1) _ (nums .u8 rc).toArray _ _ _ _ rfl rfl rfl (setRow_heap _ _ _ _ _ _ HCS.out) Tryd.underlying27 rfl hi6.out) rfl ?_
              refine ⟨by rw [RC.out, HZ.out]; rfl, ?_, ?_⟩
              · have hd := S8.out.dsk.keep (Keep.far' (far_row _ (w.heap.size + 1 + 1) (nums .u8 rc).toArray)) (fun i _ e cur hc => by
                  cases e
                  rw [HCS.out] at hc
                  simp only [Option.some.injEq, Obj.cells.injEq] at hc
                  exact absurd hc.2.1 (by decide)) (fun e => hnR.out (.inl e.symm)) (fun g hg e => hnR.out (.inr (e ▸ hg))) (fun g hg => nomatch hg)
                rw [show layQ C [⟨0, v, recB zz b⟩] = layB C 0 (recB zz b) 1 from by
                  show C.set 0 (recB zz b) = C.set 0 (chunk (recB zz b) 0)
                  unfold chunk
                  rw [List.drop_zero, List.take_of_length_le (by rw [RL.out]; decide)]] at hd
                rw [← HZ.out]
                exact hd
              · refine ((KA.out.trans (Keep.of (Below.refl _ _).drew)).trans S8.out.keep).then (Keep.far' (far_row _ _ _)) (fun i hi e => ?_)
                omega
  have M2 := hid MID
  clear MID A2
  have TAG := fun (wx : World) (P : Nat) (PT : Parts wx (some ⟨P, 0, none⟩) 2 2 [⟨some ⟨w.heap.size + 1, 0, none⟩, 32, zz⟩, ⟨a, c, b⟩]) => (show Calls Tryd.prog 18 #[.agg tl.toArray, .string nmRec, .slice (some ⟨P, 0, none⟩) 2 2] wx (DigRes rc wx) from by
    have TG := rtag_walk nmRec (by decide) (some ⟨P, 0, none⟩) 2 2 _ wx PT (by simp [flat, lz.out, bl.out])
    rw [HTV.out] at TG
    have e : sha (tagH nmRec ++ flat [⟨some ⟨w.heap.size + 1, 0, none⟩, 32, zz⟩, ⟨a, c, b⟩]) = rc := by rw [RC.out]; unfold recH; simp [flat]
    rw [e] at TG
    exact TG)
  refine wp_region_held_drew (S := fun w' => Below W3.heap.size W3 w') (by kernel_rfl) ((Below.refl _ _).drew) (fun hHeld => ?_)
  try simp only [List.size_toArray, List.length_cons, List.length_nil, Nat.reduceAdd, Array.replicate_succ, Array.replicate_zero, List.push_toArray, List.nil_append, List.cons_append]
  refine' wpAnyH_take (i := 0) (oi := { dst := some 16, op := Op.load 34 (Operand.tmp 6), type := 34, pos := "law.go:249", after := #[], guard := none }) (v := _) rfl (by kernel_rfl) (by kernel_rfl) (by kernel_rfl) (fun _ _ _ h => h) (yieldsIf_load_mid (by rfl) _ _ rfl w.heap.size 0 rfl tl _ (fun _ h => range_keep h rT.out) Tryd.underlying34 rfl hiTl.out) hHeld ?_
  (try simp only [Act.put, List.setIfInBounds_toArray, List.set_cons_zero, List.set_cons_succ])
  refine wpAnyH_take (i := 1) (oi := { dst := some 17, op := Op.slice 27 (Operand.tmp 8) none none none, type := 23, pos := "law.go:249", after := #[], guard := none }) (v := ?v3001) rfl (by kernel_rfl) (by kernel_rfl) (by kernel_rfl) (fun _ _ _ h => h) (Or.inl ⟨by rfl, ?hy3001⟩) hHeld ?_
  case hy3001 => (intro w hSw; (try dsimp only at hSw); go_simp; (try with_reducible rfl))
  (try simp only [Act.put, List.setIfInBounds_toArray, List.set_cons_zero, List.set_cons_succ])
  refine wpAnyH_take (i := 2) (oi := { dst := some 18, op := Op.move (Operand.tmp 4), type := 23, pos := "law.go:249", after := #[], guard := none }) (v := ?v3002) rfl (by kernel_rfl) (by kernel_rfl) (by kernel_rfl) (fun _ _ _ h => h) (Or.inl ⟨by rfl, ?hy3002⟩) hHeld ?_
  case hy3002 => (intro w hSw; (try dsimp only at hSw); go_simp; (try with_reducible rfl))
  (try simp only [Act.put, List.setIfInBounds_toArray, List.set_cons_zero, List.set_cons_succ])
  refine wpAnyH_ready (rs := [3, 5]) (by kernel_rfl) (by simp) ?_
  refine AllReadyH.cons (o := { dst := some 19, op := Op.buildSlice 42 2 #[(0, Operand.tmp 17), (1, Operand.tmp 18)], type := 42, pos := "law.go:249", after := #[{ on := 1, ground := Ground.data }, { on := 2, ground := Ground.data }], guard := none }) rfl (fun K hK => ?_) ?_
  go_simp; (first | refine newZ ?_ | refine newZd ?_); intro wp HP BP
  refine hK.out _ _ (by first | exact hHeld.trans (BP.out.mono hHeld.size) | exact BP.out) (fun hHeld => ?_)
  clear hK K
  (try simp only [List.setIfInBounds_toArray, List.set_cons_zero, List.set_cons_succ])
  refine wpAnyH_ready (rs := [4, 5]) (by kernel_rfl) (by simp) ?_
  refine AllReadyH.cons (o := { dst := some 20, op := Op.call { callee := Callee.value (Operand.func 18), args := #[Operand.tmp 16, Operand.const (Value.string { data := #[109, 111, 110, 101, 121, 101, 114, 47, 114, 101, 99, 111, 114, 100] }), Operand.tmp 19], argTypes := #[34, 9, 42] }, type := 27, pos := "law.go:249", after := #[{ on := 0, ground := Ground.data }, { on := 3, ground := Ground.data }], guard := none }) rfl (fun K hK => ?_) ?_
  go_simp; have PT := parts2 (by first | exact HP.out | exact heap_keep HP.out BV.out) (heap_keep HHb.out hHeld) lz.out z8.out (S3.out.below hHeld) B8.out (by decide); have TG := TAG _ _ PT; refine TG.mono ?_; clear TG PT; rintro e wt ⟨rfl, bt⟩; have BT := hid bt; clear bt; rw [show hv rc = .agg (nums .u8 rc).toArray from rfl]
  refine hK.out _ _ (hHeld.trans (BT.out.mono hHeld.size)) (fun hHeld => ?_)
  clear hK K
  (try simp only [List.setIfInBounds_toArray, List.set_cons_zero, List.set_cons_succ])
  refine wpAnyH_ready (rs := [5]) (by kernel_rfl) (by simp) ?_
  refine AllReadyH.cons (o := { dst := some 13, op := Op.alloc 27, type := 0, pos := "law.go:249", after := #[], guard := none }) rfl (fun K hK => ?_) ?_
  go_simp; (first | refine newZ ?_ | refine newZd ?_); intro wa HV BV; have BVL := hid hHeld.size
  refine hK.out _ _ (by first | exact hHeld.trans (BV.out.mono hHeld.size) | exact BV.out) (fun hHeld => ?_)
  clear hK K
  (try simp only [List.setIfInBounds_toArray, List.set_cons_zero, List.set_cons_succ])
  refine wpAnyH_ready (rs := [6]) (by kernel_rfl) (by simp) ?_
  refine AllReadyH.cons (o := { dst := none, op := Op.store 27 (Operand.tmp 13) (Operand.tmp 20), type := 0, pos := "law.go:249", after := #[{ on := 5, ground := Ground.data }, { on := 4, ground := Ground.data }, { on := 4, ground := Ground.chain }, { on := 0, ground := Ground.phase }, { on := 1, ground := Ground.phase }, { on := 2, ground := Ground.phase }, { on := 3, ground := Ground.phase }, { on := 4, ground := Ground.phase }, { on := 5, ground := Ground.phase }], guard := none }) rfl (fun K hK => ?_) ?_
  rw [if_pos (by rfl)]; refine wp_store_row _ _ _ rfl _ (nums .u8 rc).toArray rfl rfl _ _ (by first | exact HV.out | exact heap_keep HV.out BP.out | exact heap_keep HV.out BT.out | exact heap_keep (heap_keep HV.out BP.out) BT.out) hi6.out hoZ.out h16.out ?_
  refine hK.out _ _ (below_setRow hHeld BVL.out _) (fun hHeld => ?_)
  clear hK K
  (try simp only [List.setIfInBounds_toArray, List.set_cons_zero, List.set_cons_succ])
  refine wpAnyH_done (by kernel_rfl) ?_ _
  rotate_left
  exact AllReadyH.nil
  exact AllReadyH.nil
  refine AllReadyH.cons (o := { dst := some 13, op := Op.alloc 27, type := 0, pos := "law.go:249", after := #[], guard := none }) rfl (fun K hK => ?_) ?_
  go_simp; (first | refine newZ ?_ | refine newZd ?_); intro wa HV BV; have BVL := hid hHeld.size
  refine hK.out _ _ (by first | exact hHeld.trans (BV.out.mono hHeld.size) | exact BV.out) (fun hHeld => ?_)
  clear hK K
  (try simp only [List.setIfInBounds_toArray, List.set_cons_zero, List.set_cons_succ])
  refine wpAnyH_ready (rs := [4]) (by kernel_rfl) (by simp) ?_
  refine AllReadyH.cons (o := { dst := some 20, op := Op.call { callee := Callee.value (Operand.func 18), args := #[Operand.tmp 16, Operand.const (Value.string { data := #[109, 111, 110, 101, 121, 101, 114, 47, 114, 101, 99, 111, 114, 100] }), Operand.tmp 19], argTypes := #[34, 9, 42] }, type := 27, pos := "law.go:249", after := #[{ on := 0, ground := Ground.data }, { on := 3, ground := Ground.data }], guard := none }) rfl (fun K hK => ?_) ?_
  go_simp; have PT := parts2 (by first | exact HP.out | exact heap_keep HP.out BV.out) (heap_keep HHb.out hHeld) lz.out z8.out (S3.out.below hHeld) B8.out (by decide); have TG := TAG _ _ PT; refine TG.mono ?_; clear TG PT; rintro e wt ⟨rfl, bt⟩; have BT := hid bt; clear bt; rw [show hv rc = .agg (nums .u8 rc).toArray from rfl]
  refine hK.out _ _ (hHeld.trans (BT.out.mono hHeld.size)) (fun hHeld => ?_)
  clear hK K
  (try simp only [List.setIfInBounds_toArray, List.set_cons_zero, List.set_cons_succ])
  refine wpAnyH_ready (rs := [6]) (by kernel_rfl) (by simp) ?_
  refine AllReadyH.cons (o := { dst := none, op := Op.store 27 (Operand.tmp 13) (Operand.tmp 20), type := 0, pos := "law.go:249", after := #[{ on := 5, ground := Ground.data }, { on := 4, ground := Ground.data }, { on := 4, ground := Ground.chain }, { on := 0, ground := Ground.phase }, { on := 1, ground := Ground.phase }, { on := 2, ground := Ground.phase }, { on := 3, ground := Ground.phase }, { on := 4, ground := Ground.phase }, { on := 5, ground := Ground.phase }], guard := none }) rfl (fun K hK => ?_) ?_
  rw [if_pos (by rfl)]; refine wp_store_row _ _ _ rfl _ (nums .u8 rc).toArray rfl rfl _ _ (by first | exact HV.out | exact heap_keep HV.out BP.out | exact heap_keep HV.out BT.out | exact heap_keep (heap_keep HV.out BP.out) BT.out) hi6.out hoZ.out h16.out ?_
  refine hK.out _ _ (below_setRow hHeld BVL.out _) (fun hHeld => ?_)
  clear hK K
  (try simp only [List.setIfInBounds_toArray, List.set_cons_zero, List.set_cons_succ])
  refine wpAnyH_done (by kernel_rfl) ?_ _
  rotate_left
  exact AllReadyH.nil
  exact AllReadyH.nil
  exact AllReadyH.nil
  refine AllReadyH.cons (o := { dst := some 13, op := Op.alloc 27, type := 0, pos := "law.go:249", after := #[], guard := none }) rfl (fun K hK => ?_) ?_
  go_simp; (first | refine newZ ?_ | refine newZd ?_); intro wa HV BV; have BVL := hid hHeld.size
  refine hK.out _ _ (by first | exact hHeld.trans (BV.out.mono hHeld.size) | exact BV.out) (fun hHeld => ?_)
  clear hK K
  (try simp only [List.setIfInBounds_toArray, List.set_cons_zero, List.set_cons_succ])
  refine wpAnyH_ready (rs := [3]) (by kernel_rfl) (by simp) ?_
  refine AllReadyH.cons (o := { dst := some 19, op := Op.buildSlice 42 2 #[(0, Operand.tmp 17), (1, Operand.tmp 18)], type := 42, pos := "law.go:249", after := #[{ on := 1, ground := Ground.data }, { on := 2, ground := Ground.data }], guard := none }) rfl (fun K hK => ?_) ?_
  go_simp; (first | refine newZ ?_ | refine newZd ?_); intro wp HP BP
  refine hK.out _ _ (by first | exact hHeld.trans (BP.out.mono hHeld.size) | exact BP.out) (fun hHeld => ?_)
  clear hK K
  (try simp only [List.setIfInBounds_toArray, List.set_cons_zero, List.set_cons_succ])
  refine wpAnyH_ready (rs := [4]) (by kernel_rfl) (by simp) ?_
  refine AllReadyH.cons (o := { dst := some 20, op := Op.call { callee := Callee.value (Operand.func 18), args := #[Operand.tmp 16, Operand.const (Value.string { data := #[109, 111, 110, 101, 121, 101, 114, 47, 114, 101, 99, 111, 114, 100] }), Operand.tmp 19], argTypes := #[34, 9, 42] }, type := 27, pos := "law.go:249", after := #[{ on := 0, ground := Ground.data }, { on := 3, ground := Ground.data }], guard := none }) rfl (fun K hK => ?_) ?_
  go_simp; have PT := parts2 (by first | exact HP.out | exact heap_keep HP.out BV.out) (heap_keep HHb.out hHeld) lz.out z8.out (S3.out.below hHeld) B8.out (by decide); have TG := TAG _ _ PT; refine TG.mono ?_; clear TG PT; rintro e wt ⟨rfl, bt⟩; have BT := hid bt; clear bt; rw [show hv rc = .agg (nums .u8 rc).toArray from rfl]
  refine hK.out _ _ (hHeld.trans (BT.out.mono hHeld.size)) (fun hHeld => ?_)
  clear hK K
  (try simp only [List.setIfInBounds_toArray, List.set_cons_zero, List.set_cons_succ])
  refine wpAnyH_ready (rs := [6]) (by kernel_rfl) (by simp) ?_
  refine AllReadyH.cons (o := { dst := none, op := Op.store 27 (Operand.tmp 13) (Operand.tmp 20), type := 0, pos := "law.go:249", after := #[{ on := 5, ground := Ground.data }, { on := 4, ground := Ground.data }, { on := 4, ground := Ground.chain }, { on := 0, ground := Ground.phase }, { on := 1, ground := Ground.phase }, { on := 2, ground := Ground.phase }, { on := 3, ground := Ground.phase }, { on := 4, ground := Ground.phase }, { on := 5, ground := Ground.phase }], guard := none }) rfl (fun K hK => ?_) ?_
  rw [if_pos (by rfl)]; refine wp_store_row _ _ _ rfl _ (nums .u8 rc).toArray rfl rfl _ _ (by first | exact HV.out | exact heap_keep HV.out BP.out | exact heap_keep HV.out BT.out | exact heap_keep (heap_keep HV.out BP.out) BT.out) hi6.out hoZ.out h16.out ?_
  refine hK.out _ _ (below_setRow hHeld BVL.out _) (fun hHeld => ?_)
  clear hK K
  (try simp only [List.setIfInBounds_toArray, List.set_cons_zero, List.set_cons_succ])
  refine wpAnyH_done (by kernel_rfl) ?_ _
  rotate_left
  exact AllReadyH.nil
  exact AllReadyH.nil
  exact AllReadyH.nil
  exact AllReadyH.nil
  all_goals
    exact M2.out _ _ _ _ _ _ _ (setRow_heap _ _ _ _ _ _ (by first | exact HV.out | exact heap_keep HV.out BP.out | exact heap_keep HV.out BT.out | exact heap_keep (heap_keep HV.out BP.out) BT.out)) BVL.out hHeld
end Go.Proofs.YtllckpcggmfmkaaDoor

/- JournalLast: behind the last turn that can be no state is laid any more. -/
namespace Go.Proofs.YtllckpcggmfmkaaDoor
open Go.RowKit

theorem and3 (x : Nat) : bits .and .u64 (x : Int) 3 = ((x % 4 : Nat) : Int) := by
  have h3 : (BitVec.ofInt 64 3).toNat = 2 ^ 2 - 1 := by decide
  have key : (BitVec.ofInt 64 (x : Int) &&& BitVec.ofInt 64 3).toNat = ((x : Int) % ((2 ^ 64 : Nat) : Int)).toNat % 2 ^ 2 := by
    rw [BitVec.toNat_and, BitVec.toNat_ofInt, h3, Nat.and_two_pow_sub_one_eq_mod]
  show IntKind.u64.wrap ((BitVec.ofInt 64 (x : Int) &&& BitVec.ofInt 64 3).toNat : Nat) = _
  rw [key, IntKind.wrap_u64]
  omega
def ltC0 : List (List Nat) := List.replicate 80 z64
theorem ltC0_len : ltC0.length = 80 := List.length_replicate
theorem ltC1_len (b : List Nat) : (layB ltC0 0 b 1).length = 80 := by rw [layB_len, ltC0_len]
theorem ltC1_blank (b : List Nat) {i : Nat} (h1 : 1 ≤ i) (h2 : i < 80) : (layB ltC0 0 b 1)[i]? = some blank := by
  rw [layB_out (by rw [ltC0_len]; omega) (by omega)]
  exact z64_get h2
theorem lt_read (u : Nat) : readC (layB ltC0 0 (recB z32 (be8 u)) 1) 0 0 z32 = some (be8 u, recH z32 (be8 u), 1) := by
  have := readC_lay (C := ltC0) (half := 0) (at' := 0) (ah := z32) (b := be8 u) (K := 1) (by rw [be8_len]) (by decide) (by rw [ltC0_len]; decide) (by rw [be8_len]; decide)
  rw [show 0 * (ltC0.length / 2) + 0 = 0 by omega] at this
  exact this
theorem lt_ne {k u : Nat} (hk : k < 4) (hu : u + k = 18446744073709551615) : recH (recH z32 (be8 u)) [] ≠ z32 := by
  have : k = 0 ∨ k = 1 ∨ k = 2 ∨ k = 3 := by omega
  rcases this with rfl | rfl | rfl | rfl
  · obtain rfl : u = 18446744073709551615 := by omega
    exact ne_last0
  · obtain rfl : u = 18446744073709551614 := by omega
    exact ne_last1
  · obtain rfl : u = 18446744073709551613 := by omega
    exact ne_last2
  · obtain rfl : u = 18446744073709551612 := by omega
    exact ne_last3
theorem lt_chain {k u : Nat} (hk : k < 4) (hu : u + k = 18446744073709551615) : ChainC (layB ltC0 0 (recB z32 (be8 u)) 1) 0 1 (recH z32 (be8 u)) [] 1 (recH z32 (be8 u)) :=
  ⟨readC_blank (by rw [ltC1_len]; exact ltC1_blank _ (by decide) (by decide)) (lt_ne hk hu), rfl, rfl⟩
theorem lt_no (u : Nat) (b h : List Nat) (t : Nat) (hr : readC (layB ltC0 0 (recB z32 (be8 u)) 1) 1 0 z32 = some (b, h, t)) : b.length < 8 := by
  have := readC_blank0 (by rw [ltC1_len]; exact ltC1_blank _ (by decide) (by decide)) hr
  rw [this.1]; decide
structure LtI (w : World) (jb db Bj Bd : Nat) (sd : Value) (k i : Nat) (wr : World) : Prop where
  ex : ∃ half next turn chk st rv C, JourAt wr jb db Bj half next turn chk st rv [] ∧ DiskAt wr db Bd sd (.slice none 0 0) C [] ∧ C.length = 80 ∧ half ≤ 1 ∧ next ≤ 6 ∧ turn + (k - i) = 18446744073709551615
  bel : Below w.heap.size w wr
set_option maxRecDepth 100000 in
set_option maxHeartbeats 8000000 in
theorem jlast_walk (back : Nat) (_hback : back < 18446744073709551616) (a : Option Addr) (n c : Nat) (bs : List Nat) (w : World) (hb : Sl .u8 w a n c bs) (hb8 : ∀ d ∈ bs, d < 256) (ht : Tabs w) :
    Calls Tryd.prog 3 #[.int .u64 (back : Int), .slice a n c] w fun e w' => e = .returned (.bool true) ∧ Below w.heap.size w w' := by
  have HT := hid ht
  have SB := hid hb
  have B8 := hid hb8
  have NL := hid (show bs.length = n from hb.len)
  obtain ⟨k, hk⟩ : ∃ k, k = back % 4 := ⟨_, rfl⟩
  have r1 : bits .and .u64 (back : Int) 3 = (k : Int) := by rw [and3, hk]
  have K4 := hid (show k < 4 by omega)
  obtain ⟨u, hu⟩ : ∃ u, u = 18446744073709551615 - k := ⟨_, rfl⟩
  have r2 : IntKind.u64.wrap (18446744073709551615 - (k : Int)) = (u : Int) := by rw [IntKind.wrap_u64]; omega
  have UU := hid (show u + k = 18446744073709551615 ∧ 0 < u ∧ u < 18446744073709551616 by omega)
  clear ht hb hb8 hk hu
  go_enter Tryd.func3, Tryd.ntmps3
  go_wp2_with (fail)
  refine (jhead_walk w HT.out).mono ?_
  rintro e w1 ⟨rfl, b1⟩
  have B1 := hid b1
  clear b1
  by_cases h300 : n ≤ 300
  case neg =>
    have t1 : decide ((300 : Int) < (n : Int)) = true := decide_eq_true (by omega)
    have t2 : decide (300 < n) = true := decide_eq_true (by omega)
    clear h300
    go_wp2_with (fail)
    go_ret
    exact ⟨rfl, B1.out⟩
  have t1 : decide ((300 : Int) < (n : Int)) = false := decide_eq_false (by omega)
  have t2 : decide (300 < n) = false := decide_eq_false (by omega)
  have HN := hid h300
  clear h300
  go_wp2_with (fail)
  refine (dnew_walk 80 rfl w1).mono ?_
  rintro e w2 ⟨rfl, d2⟩
  rw [show clampD 80 = 80 by decide] at d2
  obtain ⟨sd, d2, b2⟩ := d2
  have D2 := hid (show DiskAt w2 w1.heap.size (w1.heap.size + 1) sd (.slice none 0 0) ltC0 [] from d2)
  have B2 := hid (B1.out.trans (b2.mono B1.out.size))
  have SD := hid (show ∀ g, sd.ownBlock = some g → w1.heap.size ≤ g from fun g e => by obtain ⟨vs', o', _⟩ := d2.sure; have := (o'.lt _ e).1; omega)
  clear d2 b2 t1 t2
  go_wp2_with (fail)
  refine (make_walk w2).mono ?_
  rintro e w3 ⟨rfl, b3⟩
  have D3 := hid (D2.out.below b3)
  have B3 := hid (B2.out.trans (b3.mono B2.out.size))
  clear b3
  go_wp2_with (fail)
  refine (reight_walk u UU.out.2.2 w3).mono ?_
  rintro e w4 ⟨v4, rfl, o4, b4⟩
  rw [beT_len, beT8] at o4
  obtain ⟨a4, c4, rfl, r4⟩ := Rd.of_owns o4
  have R4 := hid r4
  have D4 := hid (D3.out.below b4)
  have B4 := hid (B3.out.trans (b4.mono B3.out.size))
  clear o4 b4 r4
  go_wp2_with (fail)
  refine (llay_walk D4.out (by rw [ltC0_len]; decide) a4 c4 (be8 u) R4.out (be8_lt u)).mono ?_
  rintro e w5 ⟨rfl, d5, k5⟩
  have D5 := hid d5
  have lowD := hid (show w.heap.size ≤ w1.heap.size ∧ (∀ g, sd.ownBlock = some g → w.heap.size ≤ g) from ⟨B1.out.size, fun g hg => Nat.le_trans B1.out.size (SD.out g hg)⟩)
  have B5 := hid (show Below w.heap.size w w5 from B4.out.trans (k5.below (fun i e => by
    rcases e with rfl | e
    · exact lowD.out.1
    · exact lowD.out.2 i e) B4.out.size))
  clear d5 k5 D4 D3
  have lh := hid (recH_len z32 (be8 u))
  have hi6 := hid (show (Tryd.prog.info? 27).map (·.size) = some (nums .u8 (recH z32 (be8 u))).toArray.size by rw [List.size_toArray, nums_length, lh.out]; kernel_rfl)
  have h16 := hid (all_oneCell_toArray (nums_oneCell .u8 (recH z32 (be8 u))))
  have hoZ := hid (show 32 = (nums .u8 (recH z32 (be8 u))).toArray.size by rw [List.size_toArray, nums_length, lh.out])
  go_upto_region 8 with (refine wpList_store_row rfl _ _ _ rfl w5.heap.size (nums .u8 (recH z32 (be8 u))).toArray rfl rfl _ _ (heap_alloc_new _ _) hi6.out hoZ.out h16.out ?_; refine laidW (F := fun w3 => wpList _ _ _ _ _ w3) ?_; intro w6 h6 b6)
  have D6 := hid (D5.out.below b6.out)
  have B6 := hid (B5.out.trans (b6.out.mono B5.out.size))
  have OP := hid (jopen_old D6.out (HT.out.below B6.out) (fun b h t hr => lt_no u b h t hr) u UU.out.2.2 UU.out.2.1 [] (recH z32 (be8 u)) 1 (by rw [List.append_nil]; exact lt_read u) [] 1 (recH z32 (be8 u)) (lt_chain K4.out UU.out.1))
  clear h6 b6
  go_wp2_with (fail)
  refine OP.out.mono ?_
  rintro e w7 ⟨jb, rv, rfl, j7, b7⟩
  have sepB := hid (show w1.heap.size < w6.heap.size ∧ (∀ g, sd.ownBlock = some g → g < w6.heap.size) from D6.out.sep)
  have I0 := hid (show LtI w jb w1.heap.size w6.heap.size (w1.heap.size + 1) sd k 0 w7 from
    ⟨⟨0, 1, u, _, [], rv, _, j7, D6.out.below b7, ltC1_len _, by decide, by decide, by have := UU.out.1; omega⟩, B6.out.trans (b7.mono B6.out.size)⟩)
  have B6s := hid B6.out.size
  clear j7 b7 OP D6 D5 D2 hi6 h16 hoZ
  go_upto_region 12 with (fail)
  go_loopw [11] (fun x11 wr => ∃ i : Nat, i ≤ k ∧ x11 = .int .u64 (i : Int) ∧ LtI w jb w1.heap.size w6.heap.size (w1.heap.size + 1) sd k i wr) (fun x11 _ => k - (intOf x11).toNat)
  case atStart => exact ⟨0, Nat.zero_le _, rfl, I0.out⟩
  case round =>
    obtain ⟨i, hi, rfl, hI⟩ := hrel
    obtain ⟨half, next, turn, chk, st, rv', C, j, d, hCl, hhf, hnx, htn⟩ := hI.ex
    have J := hid j
    have D := hid d
    have BR := hid hI.bel
    have FA := hid (And.intro hCl (And.intro hhf (And.intro hnx htn)))
    have JL := hid (jput_walk j d hhf (by omega) sepB.out (HT.out.below hI.bel) a n c bs (fun w' kk => SB.out.below (BR.out.trans (kk.below (fun g h => by
        have := B6s.out; have := J.out.lo
        rcases h with h | h | h
        · rw [h]; exact lowD.out.1
        · exact lowD.out.2 g h
        · rw [h]; omega) BR.out.size))) B8.out (by have := HN.out; omega) ((107 + bs.length) / 64) rfl)
    have hm6 := hid (show (107 + bs.length) / 64 ≤ 6 by have := HN.out; have := NL.out; omega)
    clear hI j d hCl hhf hnx htn I0
    by_cases hlt : i < k
    case neg =>
      obtain rfl : i = k := by omega
      have t1 : decide (i < i) = false := decide_eq_false (by omega)
      have t2 : decide ((i : Int) < (i : Int)) = false := decide_eq_false (by omega)
      clear hi hlt
      go_wp2_with (fail)
      refine JL.out.mono ?_
      rintro e w8 hl
      unfold LayRes at hl
      rw [if_neg (by have := FA.out.2.2.2; omega)] at hl
      obtain ⟨rfl, b8⟩ := hl
      have J8 := hid (J.out.below b8)
      have D8 := hid (D.out.below b8)
      have B8' := hid (BR.out.trans (b8.mono BR.out.size))
      clear b8 JL
      go_wp2_with (fail)
      refine (japp_walk J8.out D8.out FA.out.2.1 (by have := FA.out.2.2.1; omega) sepB.out (HT.out.below B8'.out) (by decide) a n c bs (fun w' kk => SB.out.below (B8'.out.trans (kk.below (fun g h => by
        rcases h with h | h
        · rw [h]; exact lowD.out.1
        · exact lowD.out.2 g h) B8'.out.size))) B8.out (by have := HN.out; omega) ((99 + bs.length) / 64) rfl).mono ?_
      rintro e w9 ha
      unfold AppRes at ha
      rw [if_pos (by have := FA.out; have := HN.out; have := NL.out; omega)] at ha
      obtain ⟨rfl, A⟩ := ha
      obtain ⟨rv9, j9, _⟩ := A.ex
      have J9 := hid j9
      have B9 := hid (show Below w.heap.size w w9 from B8'.out.trans (A.keep.below (fun g h => by
        have := B6s.out; have := J8.out.lo
        rcases h with h | h | h | h
        · rw [h]; exact lowD.out.1
        · exact lowD.out.2 g h
        · rw [h]; omega
        · obtain ⟨_, oo, _⟩ := J8.out.row
          have := (oo.lt _ h).1; omega) B8'.out.size))
      clear A j9
      go_wp2_with (fail)
      refine (jrecs_walk J9.out (show 1 < 4294967296 by decide) (fun r hr => by
        simp only [List.nil_append, List.mem_singleton] at hr
        rw [hr, NL.out]; have := HN.out; omega)).mono ?_
      rintro e w10 ⟨v, vs, rfl, o10, _, b10⟩
      obtain ⟨a10, c10, rfl, _⟩ := Rd.of_owns o10
      have B10 := hid (B9.out.trans (b10.mono B9.out.size))
      clear o10 b10
      go_wp2_with (fail)
      go_ret
      exact ⟨rfl, B10.out⟩
    have t1 : decide (i < k) = true := decide_eq_true hlt
    have t2 : decide ((i : Int) < (k : Int)) = true := decide_eq_true (by omega)
    obtain ⟨i1, hi1⟩ : ∃ i1, i1 = i + 1 := ⟨_, rfl⟩
    have r4 : IntKind.u64.wrap ((i : Int) + 1) = (i1 : Int) := by have := K4.out; rw [IntKind.wrap_u64]; omega
    have I1 := hid (And.intro hi1 hlt)
    clear hi hlt hi1
    go_wp2_with (fail)
    refine JL.out.mono ?_
    rintro e w8 hl
    unfold LayRes at hl
    rw [if_pos (by have := FA.out; have := hm6.out; have := I1.out; omega)] at hl
    obtain ⟨rfl, L⟩ := hl
    have I2 := hid (show LtI w jb w1.heap.size w6.heap.size (w1.heap.size + 1) sd k i1 w8 from
      ⟨⟨1 - half, _, turn + 1, _, _, _, _, L.ex, L.dsk, by rw [layB_len]; exact FA.out.1, by omega, hm6.out, by have := FA.out.2.2.2; have := I1.out; omega⟩,
        BR.out.trans (L.keep.below (fun g h => by
        have := B6s.out; have := J.out.lo
        rcases h with h | h | h
        · rw [h]; exact lowD.out.1
        · exact lowD.out.2 g h
        · rw [h]; omega) BR.out.size)⟩)
    clear L JL
    go_wp2_with (fail)
    go_roundw
    case rel => exact ⟨i1, by have := I1.out; omega, rfl, I2.out⟩
    case measure => simp [intOf]; have := I1.out; omega
theorem lawLast (back : Nat) (a : Option Addr) (n c : Nat) (bs : List Nat) (hback : back < 18446744073709551616) (hb8 : ∀ d ∈ bs, d < 256) (_hz : n * 1 ≤ 140737488351232) (w : World) (hb : Sl .u8 w a n c bs) (ht : Tabs w) :
    Calls Tryd.prog 3 #[.int .u64 (back : Int), .slice a n c] w fun e w' => e = .returned (.bool true) ∧ Below w.heap.size w w' :=
  jlast_walk back hback a n c bs w hb hb8 ht
end Go.Proofs.YtllckpcggmfmkaaDoor
