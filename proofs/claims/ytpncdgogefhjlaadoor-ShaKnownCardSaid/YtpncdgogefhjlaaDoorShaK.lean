/- The walk of the statement ShaKnown. -/
import Derived.Test.YtpncdgogefhjlaaDoorShaU
import Derived.Test.YtpncdgogefhjlaaDoorVar
namespace Go.Proofs.YtpncdgogefhjlaaDoor
open Go.RowKit

theorem row1 {w : World} {g : Nat} {v : Value} {T : TypeId} (h : w.heap[g]? = some (.cells #[v] T (0, 0))) : w.cell? ⟨g, 0, none⟩ = some v := by rw [cell_of_row _ g 0 _ _ (0, 0) h]; rfl
theorem sl_front {w : World} {a : Option Addr} {n c h : Nat} {xs : List Nat} (hs : Sl .u8 w a n c xs) (hh : h ≤ n) : Sl .u8 w a h c (xs.take h) := hs.take hh
theorem parts2 {w : World} {G : Nat} {a a' : Option Addr} {n n' c c' : Nat} {xs ys : List Nat} {T : TypeId} (hc : w.heap[G]? = some (.cells #[.slice a n c, .slice a' n' c'] T (0, 0))) (h : Sl .u8 w a n c xs) (h' : Sl .u8 w a' n' c' ys) (hx : ∀ d ∈ xs, d < 256) (hy : ∀ d ∈ ys, d < 256) (hn : n ≤ 140737488351232) (hn' : n' ≤ 140737488351232) : Parts w (some ⟨G, 0, none⟩) 2 2 [⟨a, c, xs⟩, ⟨a', c', ys⟩] := by
  have hl := h.len
  have hl' := h'.len
  subst hl hl'
  refine ⟨⟨rfl, Nat.le_refl _, by decide, (fun e => by cases e), G, 0, fun _ => rfl, fun j u hu => ?_⟩, rfl, fun l hl => ?_⟩
  · rw [Nat.zero_add, cell_of_row _ G _ _ T (0, 0) hc]
    match j, hu with
    | 0, hu => simpa [BS.cells] using hu
    | 1, hu => simpa [BS.cells] using hu
    | j + 2, hu => simp [BS.cells] at hu
  · simp only [List.mem_cons, List.not_mem_nil, or_false] at hl
    rcases hl with rfl | rfl
    · exact ⟨h, hx, hn⟩
    · exact ⟨h', hy, hn'⟩
def cutA (G n h : Nat) : Option Addr := if n = h then some ⟨G, 0, none⟩ else some ((⟨G, 0, none⟩ : Addr).add (h * 1))
theorem rsum2_walk (Q G m h : Nat) (T : TypeId) (xs : List Nat) (hh : h ≤ m) (w : World) (hc : w.heap[Q]? = some (.cells #[.slice (some ⟨G, 0, none⟩) h m, .slice (cutA G m h) (m - h) (m - h)] T (0, 0))) (hs : Sl .u8 w (some ⟨G, 0, none⟩) m m xs) (hx : ∀ d ∈ xs, d < 256) (hm : m ≤ 1048576) :
    Calls Tryd.prog 12 #[tabV, .slice (some ⟨Q, 0, none⟩) 2 2] w (SumRes xs w) := by
  have h2 := (Sl.cut hs hh).1
  have e : (if m = h then some (⟨G, 0, none⟩ : Addr) else (some (⟨G, 0, none⟩ : Addr)).map (·.add (h * 1))) = cutA G m h := rfl
  rw [e] at h2
  have P := parts2 hc (hs.take hh) h2 (fun d hd => hx d (List.mem_of_mem_take hd)) (fun d hd => hx d (List.mem_of_mem_drop hd)) (by omega) (by omega)
  have hl := hs.len
  have hf : flat [⟨some ⟨G, 0, none⟩, m, xs.take h⟩, ⟨cutA G m h, m - h, xs.drop h⟩] = xs := by simp [flat]
  have := rsum_walk (some ⟨Q, 0, none⟩) 2 2 _ w P (by rw [hf]; omega)
  rwa [hf] at this
theorem and1023 (n : Int) : bits .and .i64 n 1023 = n % 1024 := by
  have h127 : (BitVec.ofInt 64 1023).toNat = 2 ^ 10 - 1 := by decide
  have key : (BitVec.ofInt 64 n &&& BitVec.ofInt 64 1023).toNat = (n % ((2 ^ 64 : Nat) : Int)).toNat % 2 ^ 10 := by
    rw [BitVec.toNat_and, BitVec.toNat_ofInt, h127, Nat.and_two_pow_sub_one_eq_mod]
  show IntKind.i64.wrap ((BitVec.ofInt 64 n &&& BitVec.ofInt 64 1023).toNat : Nat) = n % 1024
  rw [key, IntKind.wrap_i64]
  omega
theorem fill_set {b i m : Nat} (h : i < m) : (List.replicate i b ++ List.replicate (m - i) 0).set i b = List.replicate (i + 1) b ++ List.replicate (m - (i + 1)) 0 := by
  rw [List.set_append_right _ _ (by simp)]
  have e : m - i = (m - (i + 1)) + 1 := by omega
  rw [List.length_replicate, Nat.sub_self, e, List.replicate_succ, List.set_cons_zero, List.replicate_succ', List.append_assoc]
  rfl
theorem add00 (G : Nat) : (⟨G, 0, none⟩ : Addr).add 0 = ⟨G, 0, none⟩ := by unfold Addr.add; split <;> simp_all
theorem parts0 (w : World) : Parts w none 0 0 [] := ⟨⟨rfl, by omega, by decide, fun _ => rfl, 0, 0, by simp, by simp⟩, rfl, by simp⟩
set_option maxRecDepth 100000 in
set_option maxHeartbeats 8000000 in
theorem lawKnown (b : Nat) (q : Int) (hb : b < 256) (_hq : (Lit.int .i64 q).wf = true) (w : World) (ht : Tabs w) :
    Calls Tryd.prog 4 #[.int .u8 (b : Int), .int .i64 q] w fun e w' => e = .returned (.bool true) ∧ Below w.heap.size w w' := by
  have HT := hid ht
  have HX := hid hb
  clear ht _hq
  go_enter Tryd.func4, Tryd.ntmps4
  go_wp2_with fail
  refine (head_walk _ HT.out).mono ?_
  rintro e w1 ⟨rfl, b1⟩
  have HB1 := hid b1
  clear b1
  obtain ⟨m, hm⟩ : ∃ m : Nat, q % 1024 = (m : Int) := ⟨(q % 1024).toNat, by omega⟩
  have hm1 : m < 1024 := by omega
  have em : bits .and .i64 q 1023 = (m : Int) := by rw [and1023]; exact hm
  clear hm
  go_wp2_with (refine wpList_mk rfl _ _ _ rfl tyBs rfl w1.heap.size m rfl rfl rfl rfl (by omega) (by decide) (Nat.le_refl _) ?_)
  intro w2 o2 b2 hs2
  have O2 := hid (show w2.ownsRow w1.heap.size 5 1 (.slice (some ⟨w1.heap.size, 0, none⟩) m m) m (nums .u8 (List.replicate 0 b ++ List.replicate (m - 0) 0)) by simpa [nums] using o2)
  have B2 := hid (HB1.out.trans (b2.mono HB1.out.size))
  have hs1 := HB1.out.size
  clear o2 b2 em
  generalize hG : w1.heap.size = G at *
  clear hG HB1
  go_wp2
  go_loopw [16] (fun x16 wr => ∃ i : Nat, i ≤ m ∧ x16 = .int .i64 i ∧ wr.ownsRow G 5 1 (.slice (some ⟨G, 0, none⟩) m m) m (nums .u8 (List.replicate i b ++ List.replicate (m - i) 0)) ∧ Below w.heap.size w wr) (fun x16 _ => m - (intOf x16).toNat)
  case atStart => exact ⟨0, by omega, rfl, O2.out, B2.out⟩
  case round =>
    obtain ⟨i, hi, rfl, ho, hbw⟩ := hrel
    clear O2 B2
    have HO := hid ho
    have HB := hid hbw
    by_cases hlt : i < m
    · have c1 := (ho.cellAt i (by omega)).trans (nums_get .u8 (by simp; omega))
      have f1 := ho.frozenAt i
      have HS := hid (own_store ho i (z := (b : Int)) rfl)
      have OS := hid (show (wr.setCell ⟨G, i, none⟩ (.int .u8 (b : Int))).ownsRow G 5 1 (.slice (some ⟨G, 0, none⟩) m m) m (nums .u8 (List.replicate (i + 1) b ++ List.replicate (m - (i + 1)) 0)) by rw [← fill_set hlt]; exact HS.out.1)
      have BS := hid (HB.out.trans (HS.out.2.mono hs1))
      generalize (List.replicate i b ++ List.replicate (m - i) 0).getD i 0 = old at *
      clear ho hbw HS
      go_wp2
      go_roundw
      case rel => exact ⟨i + 1, by omega, by go_num, OS.out, BS.out⟩
      case measure => simp [intOf]; omega
    · have him : i = m := by omega
      subst him
      have hsl := SlV.of_owns (xs := List.replicate i b) (by simpa using ho)
      obtain ⟨a0, c0, he0, s0⟩ := hsl
      rw [List.length_replicate] at he0 s0
      simp only [Value.slice.injEq, true_and] at he0
      obtain ⟨rfl, rfl⟩ := he0
      have S0 := hid s0
      have hX := hid (show ∀ d ∈ List.replicate i b, d < 256 from fun d hd => by rw [List.eq_of_mem_replicate hd]; exact HX.out)
      obtain ⟨e0, e31⟩ := sha_nil
      have E0 := hid e0
      have E31 := hid e31
      have hls := sha_len []
      clear ho hbw s0 e0 e31 HO
      go_wp2_with fail
      refine (sum_walk none 0 0 [] _ (parts0 _) (by decide) (HT.out.below HB.out)).mono ?_
      rintro e w3 ⟨rfl, b3⟩
      have B3 := hid (HB.out.trans (b3.mono HB.out.size))
      have S3 := hid (S0.out.below b3)
      have ef : flat [] = [] := rfl
      rw [ef]
      clear ef b3
      generalize sha [] = zs at *
      have h0 := hid (heap_alloc_new w3 (.cells (List.replicate 32 (Value.int .u8 0)).toArray 26))
      go_wp2_with (refine wpList_storeH rfl _ _ rfl w3.heap.size rfl rfl hls h0.out rfl ?_)
      intro wb hh2 hf2
      have BA := (Below.refl w3.heap.size w3).alloc (Nat.le_refl _) (.cells (List.replicate 32 (Value.int .u8 0)).toArray 26)
      have BB := hid (B3.out.trans (((BA.trans (hf2.below (Nat.le_refl _) (by simp))).mono B3.out.size)))
      have HSL := hid (S3.out.below (BA.trans (hf2.below (Nat.le_refl _) (by simp))))
      have HTb := hid (HT.out.below BB.out)
      have cc := fun j (hj : j < 32) => (cell_of_row wb w3.heap.size j _ _ (0, 0) hh2).trans (by rw [List.getElem?_toArray, nums_get .u8 (by omega)] : _ = some (Value.int .u8 ((zs.getD j 0 : Nat) : Int)))
      have C0 := hid (show wb.cell? ⟨w3.heap.size, 0, none⟩ = some (.int .u8 227) by rw [cc 0 (by decide), E0.out]; rfl)
      have C31 := hid (show wb.cell? ⟨w3.heap.size, 31, none⟩ = some (.int .u8 85) by rw [cc 31 (by decide), E31.out]; rfl)
      clear cc hh2 hf2 BA h0 hls S0 S3 B3 HB
      generalize w3.heap.size = GE at *
      obtain ⟨h2, hh2⟩ : ∃ h2 : Nat, h2 = i / 2 := ⟨_, rfl⟩
      have hb2 : h2 ≤ i := by omega
      have q1 : (i : Int).tdiv 2 = (h2 : Int) := by rw [Int.tdiv_eq_ediv_of_nonneg (by omega)]; omega
      have q2 : (i : Int) / 2 = (h2 : Int) := by omega
      have q3 : IntKind.i64.wrap (h2 : Int) = (h2 : Int) := IntWalk.i64_in _ (by omega)
      have s1 : ∀ w : World, (Instr.sliceAt 22 (.slice (some ⟨G, 0, none⟩) i i) none (some (.int .i64 (h2 : Int))) none).run Tryd.prog w = .ok (.slice (some ⟨G, 0, none⟩) h2 i) w := fun w => by
        rw [run_sliceAt_slice w _ _ _ _ _ undBs, run_slice_any w _ _ _ _ undBs]
        simp [Instr.sliceBounds, run_sliceBound w, szBs, Result.andThen, sliced, hb2]
        exact fun _ => add00 G
      have s2 : ∀ w : World, (Instr.sliceAt 22 (.slice (some ⟨G, 0, none⟩) i i) (some (.int .i64 (h2 : Int))) none none).run Tryd.prog w = .ok (.slice (cutA G i h2) (i - h2) (i - h2)) w := fun w => by
        rw [run_sliceAt_slice w _ _ _ _ _ undBs, run_slice_any w _ _ _ _ undBs]
        simp [Instr.sliceBounds, run_sliceBound w, szBs, Result.andThen, sliced, hb2, cutA]
      have r1 := guard_hv (sha (List.replicate i b)) (sha (List.replicate i b))
      have r2 : ∀ w, (binOp .eql 26 (hv (sha (List.replicate i b))) (hv (sha (List.replicate i b)))).run Tryd.prog w = .ok (.bool true) w := fun w => by rw [eql_hv (sha_len _) (sha_len _) (sha_lt _) (sha_lt _), decide_eq_true rfl]
      clear hh2
      go_upto_region 11 with (fail)
      refine wp_region_held_drew (S := fun w' => Below wb.heap.size wb w') (by kernel_rfl) ((Below.refl _ _).drew) (fun hHeld => ?_)
      try simp only [List.size_toArray, List.length_cons, List.length_nil, Nat.reduceAdd, Array.replicate_succ, Array.replicate_zero, List.push_toArray, List.nil_append, List.cons_append]
      refine wpAnyH_take (i := 0) (oi := { dst := some 25, op := Op.indexAddr 26 (Operand.tmp 7) (Operand.const (Value.int IntKind.i64 0)), type := 0, pos := "law.go:120", after := #[], guard := none }) (v := ?v1) rfl (by kernel_rfl) (by kernel_rfl) (by kernel_rfl) (fun _ _ _ h => h) (Or.inl ⟨by rfl, ?hy1⟩) hHeld ?_
      case hy1 => (intro w hSw; (try dsimp only at hSw); go_simp; (try with_reducible rfl))
      (try simp only [Act.put, List.setIfInBounds_toArray, List.set_cons_zero, List.set_cons_succ])
      refine wpAnyH_take (i := 1) (oi := { dst := some 26, op := Op.load 5 (Operand.tmp 25), type := 5, pos := "law.go:120", after := #[{ on := 0, ground := Ground.data }], guard := none }) (v := .int .u8 227) rfl (by kernel_rfl) (by kernel_rfl) (by kernel_rfl) (fun _ _ _ h => h) (Or.inl ⟨by rfl, fun w h => by have hc := cell_keep' C0.out h; go_simp⟩) hHeld ?_
      (try simp only [Act.put, List.setIfInBounds_toArray, List.set_cons_zero, List.set_cons_succ])
      refine wpAnyH_take (i := 2) (oi := { dst := some 27, op := Op.binOp BinOp.eql 5 (Operand.tmp 26) (Operand.const (Value.int IntKind.u8 227)) 5, type := 4, pos := "law.go:120", after := #[{ on := 1, ground := Ground.data }], guard := none }) (v := ?v2) rfl (by kernel_rfl) (by kernel_rfl) (by kernel_rfl) (fun _ _ _ h => h) (Or.inl ⟨by rfl, ?hy2⟩) hHeld ?_
      case hy2 => (intro w hSw; (try dsimp only at hSw); go_simp; (try with_reducible rfl))
      (try simp only [Act.put, List.setIfInBounds_toArray, List.set_cons_zero, List.set_cons_succ])
      refine wpAnyH_take (i := 3) (oi := { dst := some 28, op := Op.move (Operand.tmp 27), type := 4, pos := "law.go:120", after := #[{ on := 2, ground := Ground.data }], guard := none }) (v := ?v3) rfl (by kernel_rfl) (by kernel_rfl) (by kernel_rfl) (fun _ _ _ h => h) (Or.inl ⟨by rfl, ?hy3⟩) hHeld ?_
      case hy3 => (intro w hSw; (try dsimp only at hSw); go_simp; (try with_reducible rfl))
      (try simp only [Act.put, List.setIfInBounds_toArray, List.set_cons_zero, List.set_cons_succ])
      refine wpAnyH_take (i := 4) (oi := { dst := some 29, op := Op.indexAddr 26 (Operand.tmp 7) (Operand.const (Value.int IntKind.i64 31)), type := 0, pos := "law.go:120", after := #[{ on := 3, ground := Ground.guard }], guard := some (3, true) }) (v := ?v4) rfl (by kernel_rfl) (by kernel_rfl) (by kernel_rfl) (fun _ _ _ h => h) (Or.inl ⟨by rfl, ?hy4⟩) hHeld ?_
      case hy4 => (intro w hSw; (try dsimp only at hSw); go_simp; (try with_reducible rfl))
      (try simp only [Act.put, List.setIfInBounds_toArray, List.set_cons_zero, List.set_cons_succ])
      refine wpAnyH_take (i := 5) (oi := { dst := some 30, op := Op.load 5 (Operand.tmp 29), type := 5, pos := "law.go:120", after := #[{ on := 4, ground := Ground.data }, { on := 3, ground := Ground.guard }], guard := some (3, true) }) (v := .int .u8 85) rfl (by kernel_rfl) (by kernel_rfl) (by kernel_rfl) (fun _ _ _ h => h) (Or.inl ⟨by rfl, fun w h => by have hc := cell_keep' C31.out h; go_simp⟩) hHeld ?_
      (try simp only [Act.put, List.setIfInBounds_toArray, List.set_cons_zero, List.set_cons_succ])
      refine wpAnyH_take (i := 6) (oi := { dst := some 31, op := Op.binOp BinOp.eql 5 (Operand.tmp 30) (Operand.const (Value.int IntKind.u8 85)) 5, type := 4, pos := "law.go:120", after := #[{ on := 5, ground := Ground.data }, { on := 3, ground := Ground.guard }], guard := some (3, true) }) (v := ?v5) rfl (by kernel_rfl) (by kernel_rfl) (by kernel_rfl) (fun _ _ _ h => h) (Or.inl ⟨by rfl, ?hy5⟩) hHeld ?_
      case hy5 => (intro w hSw; (try dsimp only at hSw); go_simp; (try with_reducible rfl))
      (try simp only [Act.put, List.setIfInBounds_toArray, List.set_cons_zero, List.set_cons_succ])
      refine wpAnyH_take (i := 7) (oi := { dst := some 32, op := Op.pick (Operand.tmp 28) (Operand.tmp 31) (Operand.const (Value.bool false)), type := 4, pos := "law.go:120", after := #[{ on := 3, ground := Ground.data }, { on := 6, ground := Ground.data }], guard := none }) (v := ?v6) rfl (by kernel_rfl) (by kernel_rfl) (by kernel_rfl) (fun _ _ _ h => h) (Or.inl ⟨by rfl, ?hy6⟩) hHeld ?_
      case hy6 => (intro w hSw; (try dsimp only at hSw); go_simp; (try with_reducible rfl))
      (try simp only [Act.put, List.setIfInBounds_toArray, List.set_cons_zero, List.set_cons_succ])
      refine wpAnyH_take (i := 8) (oi := { dst := some 33, op := Op.move (Operand.tmp 32), type := 4, pos := "law.go:120", after := #[{ on := 7, ground := Ground.data }, { on := 3, ground := Ground.chain }], guard := none }) (v := ?v7) rfl (by kernel_rfl) (by kernel_rfl) (by kernel_rfl) (fun _ _ _ h => h) (Or.inl ⟨by rfl, ?hy7⟩) hHeld ?_
      case hy7 => (intro w hSw; (try dsimp only at hSw); go_simp; (try with_reducible rfl))
      (try simp only [Act.put, List.setIfInBounds_toArray, List.set_cons_zero, List.set_cons_succ])
      refine wpAnyH_take (i := 9) (oi := { dst := some 34, op := Op.move (Operand.tmp 5), type := 22, pos := "law.go:120", after := #[{ on := 8, ground := Ground.guard }], guard := some (8, true) }) (v := ?v8) rfl (by kernel_rfl) (by kernel_rfl) (by kernel_rfl) (fun _ _ _ h => h) (Or.inl ⟨by rfl, ?hy8⟩) hHeld ?_
      case hy8 => (intro w hSw; (try dsimp only at hSw); go_simp; (try with_reducible rfl))
      (try simp only [Act.put, List.setIfInBounds_toArray, List.set_cons_zero, List.set_cons_succ])
      refine wpAnyH_take (i := 13) (oi := { dst := some 38, op := Op.move (Operand.tmp 5), type := 22, pos := "law.go:120", after := #[{ on := 8, ground := Ground.guard }], guard := some (8, true) }) (v := ?v9) rfl (by kernel_rfl) (by kernel_rfl) (by kernel_rfl) (fun _ _ _ h => h) (Or.inl ⟨by rfl, ?hy9⟩) hHeld ?_
      case hy9 => (intro w hSw; (try dsimp only at hSw); go_simp; (try with_reducible rfl))
      (try simp only [Act.put, List.setIfInBounds_toArray, List.set_cons_zero, List.set_cons_succ])
      refine wpAnyH_take (i := 14) (oi := { dst := some 39, op := Op.move (Operand.tmp 1), type := 3, pos := "law.go:120", after := #[{ on := 8, ground := Ground.guard }], guard := some (8, true) }) (v := ?v10) rfl (by kernel_rfl) (by kernel_rfl) (by kernel_rfl) (fun _ _ _ h => h) (Or.inl ⟨by rfl, ?hy10⟩) hHeld ?_
      case hy10 => (intro w hSw; (try dsimp only at hSw); go_simp; (try with_reducible rfl))
      (try simp only [Act.put, List.setIfInBounds_toArray, List.set_cons_zero, List.set_cons_succ])
      refine wpAnyH_take (i := 15) (oi := { dst := some 40, op := Op.binOp BinOp.quo 3 (Operand.tmp 39) (Operand.const (Value.int IntKind.i64 2)) 3, type := 3, pos := "law.go:120", after := #[{ on := 14, ground := Ground.data }, { on := 8, ground := Ground.guard }], guard := some (8, true) }) (v := ?v11) rfl (by kernel_rfl) (by kernel_rfl) (by kernel_rfl) (fun _ _ _ h => h) (Or.inl ⟨by rfl, ?hy11⟩) hHeld ?_
      case hy11 => (intro w hSw; (try dsimp only at hSw); go_simp; (try with_reducible rfl))
      (try simp only [Act.put, List.setIfInBounds_toArray, List.set_cons_zero, List.set_cons_succ])
      refine wpAnyH_take (i := 16) (oi := { dst := some 41, op := Op.slice 22 (Operand.tmp 38) none (some (Operand.tmp 40)) none, type := 22, pos := "law.go:120", after := #[{ on := 13, ground := Ground.data }, { on := 15, ground := Ground.data }, { on := 8, ground := Ground.guard }], guard := some (8, true) }) (v := ?v12) rfl (by kernel_rfl) (by kernel_rfl) (by kernel_rfl) (fun _ _ _ h => h) (Or.inl ⟨by rfl, ?hy12⟩) hHeld ?_
      case hy12 => (intro w hSw; (try dsimp only at hSw); go_simp; (try with_reducible rfl))
      (try simp only [Act.put, List.setIfInBounds_toArray, List.set_cons_zero, List.set_cons_succ])
      refine wpAnyH_take (i := 17) (oi := { dst := some 42, op := Op.move (Operand.tmp 5), type := 22, pos := "law.go:120", after := #[{ on := 8, ground := Ground.guard }], guard := some (8, true) }) (v := ?v13) rfl (by kernel_rfl) (by kernel_rfl) (by kernel_rfl) (fun _ _ _ h => h) (Or.inl ⟨by rfl, ?hy13⟩) hHeld ?_
      case hy13 => (intro w hSw; (try dsimp only at hSw); go_simp; (try with_reducible rfl))
      (try simp only [Act.put, List.setIfInBounds_toArray, List.set_cons_zero, List.set_cons_succ])
      refine wpAnyH_take (i := 18) (oi := { dst := some 43, op := Op.move (Operand.tmp 1), type := 3, pos := "law.go:120", after := #[{ on := 8, ground := Ground.guard }], guard := some (8, true) }) (v := ?v14) rfl (by kernel_rfl) (by kernel_rfl) (by kernel_rfl) (fun _ _ _ h => h) (Or.inl ⟨by rfl, ?hy14⟩) hHeld ?_
      case hy14 => (intro w hSw; (try dsimp only at hSw); go_simp; (try with_reducible rfl))
      (try simp only [Act.put, List.setIfInBounds_toArray, List.set_cons_zero, List.set_cons_succ])
      refine wpAnyH_take (i := 19) (oi := { dst := some 44, op := Op.binOp BinOp.quo 3 (Operand.tmp 43) (Operand.const (Value.int IntKind.i64 2)) 3, type := 3, pos := "law.go:120", after := #[{ on := 18, ground := Ground.data }, { on := 8, ground := Ground.guard }], guard := some (8, true) }) (v := ?v15) rfl (by kernel_rfl) (by kernel_rfl) (by kernel_rfl) (fun _ _ _ h => h) (Or.inl ⟨by rfl, ?hy15⟩) hHeld ?_
      case hy15 => (intro w hSw; (try dsimp only at hSw); go_simp; (try with_reducible rfl))
      (try simp only [Act.put, List.setIfInBounds_toArray, List.set_cons_zero, List.set_cons_succ])
      refine wpAnyH_take (i := 20) (oi := { dst := some 45, op := Op.slice 22 (Operand.tmp 42) (some (Operand.tmp 44)) none none, type := 22, pos := "law.go:120", after := #[{ on := 17, ground := Ground.data }, { on := 19, ground := Ground.data }, { on := 8, ground := Ground.guard }], guard := some (8, true) }) (v := ?v16) rfl (by kernel_rfl) (by kernel_rfl) (by kernel_rfl) (fun _ _ _ h => h) (Or.inl ⟨by rfl, ?hy16⟩) hHeld ?_
      case hy16 => (intro w hSw; (try dsimp only at hSw); go_simp; (try with_reducible rfl))
      (try simp only [Act.put, List.setIfInBounds_toArray, List.set_cons_zero, List.set_cons_succ])
      refine wpAnyH_ready (rs := [10, 21]) (by kernel_rfl) (by simp) ?_
      refine AllReadyH.cons (o := { dst := some 35, op := Op.buildSlice 38 1 #[(0, Operand.tmp 34)], type := 38, pos := "law.go:120", after := #[{ on := 9, ground := Ground.data }, { on := 8, ground := Ground.guard }], guard := some (8, true) }) rfl (fun K hK => ?_) ?_
      go_simp; (first | refine newZ ?_ | refine newZd ?_); intro wp HP BP
      refine hK.out _ _ (by first | exact hHeld.trans (BP.out.mono hHeld.size) | exact BP.out) (fun hHeld => ?_)
      clear hK K
      (try simp only [List.setIfInBounds_toArray, List.set_cons_zero, List.set_cons_succ])
      refine wpAnyH_ready (rs := [11, 21]) (by kernel_rfl) (by simp) ?_
      refine AllReadyH.cons (o := { dst := some 36, op := Op.call { callee := Callee.value (Operand.func 10), args := #[Operand.tmp 35], argTypes := #[38] }, type := 26, pos := "law.go:120", after := #[{ on := 10, ground := Ground.data }, { on := 8, ground := Ground.chain }, { on := 8, ground := Ground.guard }], guard := some (8, true) }) rfl (fun K hK => ?_) ?_
      go_simp; refine (sum1_walk _ _ _ _ (List.replicate i b) _ (row1 (by first | exact HP.out | exact heap_keep HP.out BQ.out)) (HSL.out.below hHeld) hX.out (by omega) (HTb.out.below hHeld)).mono ?_; rintro e ws ⟨rfl, bs⟩; have BS := hid bs; clear bs
      refine hK.out _ _ (by first | exact hHeld.trans (BS.out.mono hHeld.size) | exact BS.out) (fun hHeld => ?_)
      clear hK K
      (try simp only [List.setIfInBounds_toArray, List.set_cons_zero, List.set_cons_succ])
      refine wpAnyH_ready (rs := [12, 21]) (by kernel_rfl) (by simp) ?_
      refine AllReadyH.cons (o := { dst := some 37, op := Op.call { callee := Callee.value (Operand.func 11), args := #[], argTypes := #[] }, type := 32, pos := "law.go:120", after := #[{ on := 11, ground := Ground.chain }, { on := 8, ground := Ground.guard }], guard := some (8, true) }) rfl (fun K hK => ?_) ?_
      go_simp; refine (make_walk _).mono ?_; rintro e wm ⟨rfl, bm⟩; have BM := hid bm; clear bm
      refine hK.out _ _ (by first | exact hHeld.trans (BM.out.mono hHeld.size) | exact BM.out) (fun hHeld => ?_)
      clear hK K
      (try simp only [List.setIfInBounds_toArray, List.set_cons_zero, List.set_cons_succ])
      refine wpAnyH_ready (rs := [21]) (by kernel_rfl) (by simp) ?_
      refine AllReadyH.cons (o := { dst := some 46, op := Op.buildSlice 38 2 #[(0, Operand.tmp 41), (1, Operand.tmp 45)], type := 38, pos := "law.go:120", after := #[{ on := 16, ground := Ground.data }, { on := 20, ground := Ground.data }, { on := 8, ground := Ground.guard }], guard := some (8, true) }) rfl (fun K hK => ?_) ?_
      go_simp; (first | refine newZ ?_ | refine newZd ?_); intro wq HQ BQ
      refine hK.out _ _ (by first | exact hHeld.trans (BQ.out.mono hHeld.size) | exact BQ.out) (fun hHeld => ?_)
      clear hK K
      (try simp only [List.setIfInBounds_toArray, List.set_cons_zero, List.set_cons_succ])
      refine wpAnyH_ready (rs := [22]) (by kernel_rfl) (by simp) ?_
      refine AllReadyH.cons (o := { dst := some 47, op := Op.call { callee := Callee.value (Operand.func 12), args := #[Operand.tmp 37, Operand.tmp 46], argTypes := #[32, 38] }, type := 25, pos := "law.go:120", after := #[{ on := 12, ground := Ground.data }, { on := 21, ground := Ground.data }, { on := 12, ground := Ground.chain }, { on := 8, ground := Ground.guard }], guard := some (8, true) }) rfl (fun K hK => ?_) ?_
      go_simp; refine (rsum2_walk _ _ _ _ _ (List.replicate i b) hb2 _ (by first | exact HQ.out | exact heap_keep HQ.out BM.out | exact heap_keep (heap_keep HQ.out BS.out) BM.out | exact heap_keep (heap_keep (heap_keep HQ.out BP.out) BS.out) BM.out) (HSL.out.below hHeld) hX.out (by omega)).mono ?_; rintro e wt ⟨rfl, bt⟩; have BT := hid bt; clear bt
      refine hK.out _ _ (by first | exact hHeld.trans (BT.out.mono hHeld.size) | exact BT.out) (fun hHeld => ?_)
      clear hK K
      (try simp only [List.setIfInBounds_toArray, List.set_cons_zero, List.set_cons_succ])
      refine wpAnyH_take (i := 23) (oi := { dst := some 48, op := Op.binOp BinOp.eql 26 (Operand.tmp 36) (Operand.tmp 47) 26, type := 4, pos := "law.go:120", after := #[{ on := 11, ground := Ground.data }, { on := 22, ground := Ground.data }, { on := 8, ground := Ground.guard }], guard := some (8, true) }) (v := ?v17) rfl (by kernel_rfl) (by kernel_rfl) (by kernel_rfl) (fun _ _ _ h => h) (Or.inl ⟨by rfl, ?hy17⟩) hHeld ?_
      case hy17 => (intro w hSw; (try dsimp only at hSw); go_simp; (try with_reducible rfl))
      (try simp only [Act.put, List.setIfInBounds_toArray, List.set_cons_zero, List.set_cons_succ])
      refine wpAnyH_take (i := 24) (oi := { dst := some 49, op := Op.pick (Operand.tmp 33) (Operand.tmp 48) (Operand.const (Value.bool false)), type := 4, pos := "law.go:120", after := #[{ on := 8, ground := Ground.data }, { on := 23, ground := Ground.data }], guard := none }) (v := ?v18) rfl (by kernel_rfl) (by kernel_rfl) (by kernel_rfl) (fun _ _ _ h => h) (Or.inl ⟨by rfl, ?hy18⟩) hHeld ?_
      case hy18 => (intro w hSw; (try dsimp only at hSw); go_simp; (try with_reducible rfl))
      (try simp only [Act.put, List.setIfInBounds_toArray, List.set_cons_zero, List.set_cons_succ])
      refine wpAnyH_take (i := 25) (oi := { dst := some 4, op := Op.assign (Operand.tmp 49), type := 4, pos := "law.go:120", after := #[{ on := 24, ground := Ground.data }, { on := 22, ground := Ground.chain }, { on := 0, ground := Ground.phase }, { on := 1, ground := Ground.phase }, { on := 2, ground := Ground.phase }, { on := 3, ground := Ground.phase }, { on := 4, ground := Ground.phase }, { on := 5, ground := Ground.phase }, { on := 6, ground := Ground.phase }, { on := 7, ground := Ground.phase }, { on := 8, ground := Ground.phase }, { on := 9, ground := Ground.phase }, { on := 10, ground := Ground.phase }, { on := 11, ground := Ground.phase }, { on := 12, ground := Ground.phase }, { on := 13, ground := Ground.phase }, { on := 14, ground := Ground.phase }, { on := 15, ground := Ground.phase }, { on := 16, ground := Ground.phase }, { on := 17, ground := Ground.phase }, { on := 18, ground := Ground.phase }, { on := 19, ground := Ground.phase }, { on := 20, ground := Ground.phase }, { on := 21, ground := Ground.phase }, { on := 22, ground := Ground.phase }, { on := 23, ground := Ground.phase }, { on := 24, ground := Ground.phase }], guard := none }) (v := ?v19) rfl (by kernel_rfl) (by kernel_rfl) (by kernel_rfl) (fun _ _ _ h => h) (Or.inl ⟨by rfl, ?hy19⟩) hHeld ?_
      case hy19 => (intro w hSw; (try dsimp only at hSw); go_simp; (try with_reducible rfl))
      (try simp only [Act.put, List.setIfInBounds_toArray, List.set_cons_zero, List.set_cons_succ])
      refine wpAnyH_done (by kernel_rfl) ?_ _
      rotate_left
      exact AllReadyH.nil
      exact AllReadyH.nil
      refine AllReadyH.cons (o := { dst := some 46, op := Op.buildSlice 38 2 #[(0, Operand.tmp 41), (1, Operand.tmp 45)], type := 38, pos := "law.go:120", after := #[{ on := 16, ground := Ground.data }, { on := 20, ground := Ground.data }, { on := 8, ground := Ground.guard }], guard := some (8, true) }) rfl (fun K hK => ?_) ?_
      go_simp; (first | refine newZ ?_ | refine newZd ?_); intro wq HQ BQ
      refine hK.out _ _ (by first | exact hHeld.trans (BQ.out.mono hHeld.size) | exact BQ.out) (fun hHeld => ?_)
      clear hK K
      (try simp only [List.setIfInBounds_toArray, List.set_cons_zero, List.set_cons_succ])
      refine wpAnyH_ready (rs := [12]) (by kernel_rfl) (by simp) ?_
      refine AllReadyH.cons (o := { dst := some 37, op := Op.call { callee := Callee.value (Operand.func 11), args := #[], argTypes := #[] }, type := 32, pos := "law.go:120", after := #[{ on := 11, ground := Ground.chain }, { on := 8, ground := Ground.guard }], guard := some (8, true) }) rfl (fun K hK => ?_) ?_
      go_simp; refine (make_walk _).mono ?_; rintro e wm ⟨rfl, bm⟩; have BM := hid bm; clear bm
      refine hK.out _ _ (by first | exact hHeld.trans (BM.out.mono hHeld.size) | exact BM.out) (fun hHeld => ?_)
      clear hK K
      (try simp only [List.setIfInBounds_toArray, List.set_cons_zero, List.set_cons_succ])
      refine wpAnyH_ready (rs := [22]) (by kernel_rfl) (by simp) ?_
      refine AllReadyH.cons (o := { dst := some 47, op := Op.call { callee := Callee.value (Operand.func 12), args := #[Operand.tmp 37, Operand.tmp 46], argTypes := #[32, 38] }, type := 25, pos := "law.go:120", after := #[{ on := 12, ground := Ground.data }, { on := 21, ground := Ground.data }, { on := 12, ground := Ground.chain }, { on := 8, ground := Ground.guard }], guard := some (8, true) }) rfl (fun K hK => ?_) ?_
      go_simp; refine (rsum2_walk _ _ _ _ _ (List.replicate i b) hb2 _ (by first | exact HQ.out | exact heap_keep HQ.out BM.out | exact heap_keep (heap_keep HQ.out BS.out) BM.out | exact heap_keep (heap_keep (heap_keep HQ.out BP.out) BS.out) BM.out) (HSL.out.below hHeld) hX.out (by omega)).mono ?_; rintro e wt ⟨rfl, bt⟩; have BT := hid bt; clear bt
      refine hK.out _ _ (by first | exact hHeld.trans (BT.out.mono hHeld.size) | exact BT.out) (fun hHeld => ?_)
      clear hK K
      (try simp only [List.setIfInBounds_toArray, List.set_cons_zero, List.set_cons_succ])
      refine wpAnyH_take (i := 23) (oi := { dst := some 48, op := Op.binOp BinOp.eql 26 (Operand.tmp 36) (Operand.tmp 47) 26, type := 4, pos := "law.go:120", after := #[{ on := 11, ground := Ground.data }, { on := 22, ground := Ground.data }, { on := 8, ground := Ground.guard }], guard := some (8, true) }) (v := ?v20) rfl (by kernel_rfl) (by kernel_rfl) (by kernel_rfl) (fun _ _ _ h => h) (Or.inl ⟨by rfl, ?hy20⟩) hHeld ?_
      case hy20 => (intro w hSw; (try dsimp only at hSw); go_simp; (try with_reducible rfl))
      (try simp only [Act.put, List.setIfInBounds_toArray, List.set_cons_zero, List.set_cons_succ])
      refine wpAnyH_take (i := 24) (oi := { dst := some 49, op := Op.pick (Operand.tmp 33) (Operand.tmp 48) (Operand.const (Value.bool false)), type := 4, pos := "law.go:120", after := #[{ on := 8, ground := Ground.data }, { on := 23, ground := Ground.data }], guard := none }) (v := ?v21) rfl (by kernel_rfl) (by kernel_rfl) (by kernel_rfl) (fun _ _ _ h => h) (Or.inl ⟨by rfl, ?hy21⟩) hHeld ?_
      case hy21 => (intro w hSw; (try dsimp only at hSw); go_simp; (try with_reducible rfl))
      (try simp only [Act.put, List.setIfInBounds_toArray, List.set_cons_zero, List.set_cons_succ])
      refine wpAnyH_take (i := 25) (oi := { dst := some 4, op := Op.assign (Operand.tmp 49), type := 4, pos := "law.go:120", after := #[{ on := 24, ground := Ground.data }, { on := 22, ground := Ground.chain }, { on := 0, ground := Ground.phase }, { on := 1, ground := Ground.phase }, { on := 2, ground := Ground.phase }, { on := 3, ground := Ground.phase }, { on := 4, ground := Ground.phase }, { on := 5, ground := Ground.phase }, { on := 6, ground := Ground.phase }, { on := 7, ground := Ground.phase }, { on := 8, ground := Ground.phase }, { on := 9, ground := Ground.phase }, { on := 10, ground := Ground.phase }, { on := 11, ground := Ground.phase }, { on := 12, ground := Ground.phase }, { on := 13, ground := Ground.phase }, { on := 14, ground := Ground.phase }, { on := 15, ground := Ground.phase }, { on := 16, ground := Ground.phase }, { on := 17, ground := Ground.phase }, { on := 18, ground := Ground.phase }, { on := 19, ground := Ground.phase }, { on := 20, ground := Ground.phase }, { on := 21, ground := Ground.phase }, { on := 22, ground := Ground.phase }, { on := 23, ground := Ground.phase }, { on := 24, ground := Ground.phase }], guard := none }) (v := ?v22) rfl (by kernel_rfl) (by kernel_rfl) (by kernel_rfl) (fun _ _ _ h => h) (Or.inl ⟨by rfl, ?hy22⟩) hHeld ?_
      case hy22 => (intro w hSw; (try dsimp only at hSw); go_simp; (try with_reducible rfl))
      (try simp only [Act.put, List.setIfInBounds_toArray, List.set_cons_zero, List.set_cons_succ])
      refine wpAnyH_done (by kernel_rfl) ?_ _
      rotate_left
      exact AllReadyH.nil
      exact AllReadyH.nil
      exact AllReadyH.nil
      refine AllReadyH.cons (o := { dst := some 46, op := Op.buildSlice 38 2 #[(0, Operand.tmp 41), (1, Operand.tmp 45)], type := 38, pos := "law.go:120", after := #[{ on := 16, ground := Ground.data }, { on := 20, ground := Ground.data }, { on := 8, ground := Ground.guard }], guard := some (8, true) }) rfl (fun K hK => ?_) ?_
      go_simp; (first | refine newZ ?_ | refine newZd ?_); intro wq HQ BQ
      refine hK.out _ _ (by first | exact hHeld.trans (BQ.out.mono hHeld.size) | exact BQ.out) (fun hHeld => ?_)
      clear hK K
      (try simp only [List.setIfInBounds_toArray, List.set_cons_zero, List.set_cons_succ])
      refine wpAnyH_ready (rs := [11]) (by kernel_rfl) (by simp) ?_
      refine AllReadyH.cons (o := { dst := some 36, op := Op.call { callee := Callee.value (Operand.func 10), args := #[Operand.tmp 35], argTypes := #[38] }, type := 26, pos := "law.go:120", after := #[{ on := 10, ground := Ground.data }, { on := 8, ground := Ground.chain }, { on := 8, ground := Ground.guard }], guard := some (8, true) }) rfl (fun K hK => ?_) ?_
      go_simp; refine (sum1_walk _ _ _ _ (List.replicate i b) _ (row1 (by first | exact HP.out | exact heap_keep HP.out BQ.out)) (HSL.out.below hHeld) hX.out (by omega) (HTb.out.below hHeld)).mono ?_; rintro e ws ⟨rfl, bs⟩; have BS := hid bs; clear bs
      refine hK.out _ _ (by first | exact hHeld.trans (BS.out.mono hHeld.size) | exact BS.out) (fun hHeld => ?_)
      clear hK K
      (try simp only [List.setIfInBounds_toArray, List.set_cons_zero, List.set_cons_succ])
      refine wpAnyH_ready (rs := [12]) (by kernel_rfl) (by simp) ?_
      refine AllReadyH.cons (o := { dst := some 37, op := Op.call { callee := Callee.value (Operand.func 11), args := #[], argTypes := #[] }, type := 32, pos := "law.go:120", after := #[{ on := 11, ground := Ground.chain }, { on := 8, ground := Ground.guard }], guard := some (8, true) }) rfl (fun K hK => ?_) ?_
      go_simp; refine (make_walk _).mono ?_; rintro e wm ⟨rfl, bm⟩; have BM := hid bm; clear bm
      refine hK.out _ _ (by first | exact hHeld.trans (BM.out.mono hHeld.size) | exact BM.out) (fun hHeld => ?_)
      clear hK K
      (try simp only [List.setIfInBounds_toArray, List.set_cons_zero, List.set_cons_succ])
      refine wpAnyH_ready (rs := [22]) (by kernel_rfl) (by simp) ?_
      refine AllReadyH.cons (o := { dst := some 47, op := Op.call { callee := Callee.value (Operand.func 12), args := #[Operand.tmp 37, Operand.tmp 46], argTypes := #[32, 38] }, type := 25, pos := "law.go:120", after := #[{ on := 12, ground := Ground.data }, { on := 21, ground := Ground.data }, { on := 12, ground := Ground.chain }, { on := 8, ground := Ground.guard }], guard := some (8, true) }) rfl (fun K hK => ?_) ?_
      go_simp; refine (rsum2_walk _ _ _ _ _ (List.replicate i b) hb2 _ (by first | exact HQ.out | exact heap_keep HQ.out BM.out | exact heap_keep (heap_keep HQ.out BS.out) BM.out | exact heap_keep (heap_keep (heap_keep HQ.out BP.out) BS.out) BM.out) (HSL.out.below hHeld) hX.out (by omega)).mono ?_; rintro e wt ⟨rfl, bt⟩; have BT := hid bt; clear bt
      refine hK.out _ _ (by first | exact hHeld.trans (BT.out.mono hHeld.size) | exact BT.out) (fun hHeld => ?_)
      clear hK K
      (try simp only [List.setIfInBounds_toArray, List.set_cons_zero, List.set_cons_succ])
      refine wpAnyH_take (i := 23) (oi := { dst := some 48, op := Op.binOp BinOp.eql 26 (Operand.tmp 36) (Operand.tmp 47) 26, type := 4, pos := "law.go:120", after := #[{ on := 11, ground := Ground.data }, { on := 22, ground := Ground.data }, { on := 8, ground := Ground.guard }], guard := some (8, true) }) (v := ?v23) rfl (by kernel_rfl) (by kernel_rfl) (by kernel_rfl) (fun _ _ _ h => h) (Or.inl ⟨by rfl, ?hy23⟩) hHeld ?_
      case hy23 => (intro w hSw; (try dsimp only at hSw); go_simp; (try with_reducible rfl))
      (try simp only [Act.put, List.setIfInBounds_toArray, List.set_cons_zero, List.set_cons_succ])
      refine wpAnyH_take (i := 24) (oi := { dst := some 49, op := Op.pick (Operand.tmp 33) (Operand.tmp 48) (Operand.const (Value.bool false)), type := 4, pos := "law.go:120", after := #[{ on := 8, ground := Ground.data }, { on := 23, ground := Ground.data }], guard := none }) (v := ?v24) rfl (by kernel_rfl) (by kernel_rfl) (by kernel_rfl) (fun _ _ _ h => h) (Or.inl ⟨by rfl, ?hy24⟩) hHeld ?_
      case hy24 => (intro w hSw; (try dsimp only at hSw); go_simp; (try with_reducible rfl))
      (try simp only [Act.put, List.setIfInBounds_toArray, List.set_cons_zero, List.set_cons_succ])
      refine wpAnyH_take (i := 25) (oi := { dst := some 4, op := Op.assign (Operand.tmp 49), type := 4, pos := "law.go:120", after := #[{ on := 24, ground := Ground.data }, { on := 22, ground := Ground.chain }, { on := 0, ground := Ground.phase }, { on := 1, ground := Ground.phase }, { on := 2, ground := Ground.phase }, { on := 3, ground := Ground.phase }, { on := 4, ground := Ground.phase }, { on := 5, ground := Ground.phase }, { on := 6, ground := Ground.phase }, { on := 7, ground := Ground.phase }, { on := 8, ground := Ground.phase }, { on := 9, ground := Ground.phase }, { on := 10, ground := Ground.phase }, { on := 11, ground := Ground.phase }, { on := 12, ground := Ground.phase }, { on := 13, ground := Ground.phase }, { on := 14, ground := Ground.phase }, { on := 15, ground := Ground.phase }, { on := 16, ground := Ground.phase }, { on := 17, ground := Ground.phase }, { on := 18, ground := Ground.phase }, { on := 19, ground := Ground.phase }, { on := 20, ground := Ground.phase }, { on := 21, ground := Ground.phase }, { on := 22, ground := Ground.phase }, { on := 23, ground := Ground.phase }, { on := 24, ground := Ground.phase }], guard := none }) (v := ?v25) rfl (by kernel_rfl) (by kernel_rfl) (by kernel_rfl) (fun _ _ _ h => h) (Or.inl ⟨by rfl, ?hy25⟩) hHeld ?_
      case hy25 => (intro w hSw; (try dsimp only at hSw); go_simp; (try with_reducible rfl))
      (try simp only [Act.put, List.setIfInBounds_toArray, List.set_cons_zero, List.set_cons_succ])
      refine wpAnyH_done (by kernel_rfl) ?_ _
      rotate_left
      exact AllReadyH.nil
      exact AllReadyH.nil
      exact AllReadyH.nil
      exact AllReadyH.nil
      refine AllReadyH.cons (o := { dst := some 46, op := Op.buildSlice 38 2 #[(0, Operand.tmp 41), (1, Operand.tmp 45)], type := 38, pos := "law.go:120", after := #[{ on := 16, ground := Ground.data }, { on := 20, ground := Ground.data }, { on := 8, ground := Ground.guard }], guard := some (8, true) }) rfl (fun K hK => ?_) ?_
      go_simp; (first | refine newZ ?_ | refine newZd ?_); intro wq HQ BQ
      refine hK.out _ _ (by first | exact hHeld.trans (BQ.out.mono hHeld.size) | exact BQ.out) (fun hHeld => ?_)
      clear hK K
      (try simp only [List.setIfInBounds_toArray, List.set_cons_zero, List.set_cons_succ])
      refine wpAnyH_ready (rs := [10]) (by kernel_rfl) (by simp) ?_
      refine AllReadyH.cons (o := { dst := some 35, op := Op.buildSlice 38 1 #[(0, Operand.tmp 34)], type := 38, pos := "law.go:120", after := #[{ on := 9, ground := Ground.data }, { on := 8, ground := Ground.guard }], guard := some (8, true) }) rfl (fun K hK => ?_) ?_
      go_simp; (first | refine newZ ?_ | refine newZd ?_); intro wp HP BP
      refine hK.out _ _ (by first | exact hHeld.trans (BP.out.mono hHeld.size) | exact BP.out) (fun hHeld => ?_)
      clear hK K
      (try simp only [List.setIfInBounds_toArray, List.set_cons_zero, List.set_cons_succ])
      refine wpAnyH_ready (rs := [11]) (by kernel_rfl) (by simp) ?_
      refine AllReadyH.cons (o := { dst := some 36, op := Op.call { callee := Callee.value (Operand.func 10), args := #[Operand.tmp 35], argTypes := #[38] }, type := 26, pos := "law.go:120", after := #[{ on := 10, ground := Ground.data }, { on := 8, ground := Ground.chain }, { on := 8, ground := Ground.guard }], guard := some (8, true) }) rfl (fun K hK => ?_) ?_
      go_simp; refine (sum1_walk _ _ _ _ (List.replicate i b) _ (row1 (by first | exact HP.out | exact heap_keep HP.out BQ.out)) (HSL.out.below hHeld) hX.out (by omega) (HTb.out.below hHeld)).mono ?_; rintro e ws ⟨rfl, bs⟩; have BS := hid bs; clear bs
      refine hK.out _ _ (by first | exact hHeld.trans (BS.out.mono hHeld.size) | exact BS.out) (fun hHeld => ?_)
      clear hK K
      (try simp only [List.setIfInBounds_toArray, List.set_cons_zero, List.set_cons_succ])
      refine wpAnyH_ready (rs := [12]) (by kernel_rfl) (by simp) ?_
      refine AllReadyH.cons (o := { dst := some 37, op := Op.call { callee := Callee.value (Operand.func 11), args := #[], argTypes := #[] }, type := 32, pos := "law.go:120", after := #[{ on := 11, ground := Ground.chain }, { on := 8, ground := Ground.guard }], guard := some (8, true) }) rfl (fun K hK => ?_) ?_
      go_simp; refine (make_walk _).mono ?_; rintro e wm ⟨rfl, bm⟩; have BM := hid bm; clear bm
      refine hK.out _ _ (by first | exact hHeld.trans (BM.out.mono hHeld.size) | exact BM.out) (fun hHeld => ?_)
      clear hK K
      (try simp only [List.setIfInBounds_toArray, List.set_cons_zero, List.set_cons_succ])
      refine wpAnyH_ready (rs := [22]) (by kernel_rfl) (by simp) ?_
      refine AllReadyH.cons (o := { dst := some 47, op := Op.call { callee := Callee.value (Operand.func 12), args := #[Operand.tmp 37, Operand.tmp 46], argTypes := #[32, 38] }, type := 25, pos := "law.go:120", after := #[{ on := 12, ground := Ground.data }, { on := 21, ground := Ground.data }, { on := 12, ground := Ground.chain }, { on := 8, ground := Ground.guard }], guard := some (8, true) }) rfl (fun K hK => ?_) ?_
      go_simp; refine (rsum2_walk _ _ _ _ _ (List.replicate i b) hb2 _ (by first | exact HQ.out | exact heap_keep HQ.out BM.out | exact heap_keep (heap_keep HQ.out BS.out) BM.out | exact heap_keep (heap_keep (heap_keep HQ.out BP.out) BS.out) BM.out) (HSL.out.below hHeld) hX.out (by omega)).mono ?_; rintro e wt ⟨rfl, bt⟩; have BT := hid bt; clear bt
      refine hK.out _ _ (by first | exact hHeld.trans (BT.out.mono hHeld.size) | exact BT.out) (fun hHeld => ?_)
      clear hK K
      (try simp only [List.setIfInBounds_toArray, List.set_cons_zero, List.set_cons_succ])
      refine wpAnyH_take (i := 23) (oi := { dst := some 48, op := Op.binOp BinOp.eql 26 (Operand.tmp 36) (Operand.tmp 47) 26, type := 4, pos := "law.go:120", after := #[{ on := 11, ground := Ground.data }, { on := 22, ground := Ground.data }, { on := 8, ground := Ground.guard }], guard := some (8, true) }) (v := ?v26) rfl (by kernel_rfl) (by kernel_rfl) (by kernel_rfl) (fun _ _ _ h => h) (Or.inl ⟨by rfl, ?hy26⟩) hHeld ?_
      case hy26 => (intro w hSw; (try dsimp only at hSw); go_simp; (try with_reducible rfl))
      (try simp only [Act.put, List.setIfInBounds_toArray, List.set_cons_zero, List.set_cons_succ])
      refine wpAnyH_take (i := 24) (oi := { dst := some 49, op := Op.pick (Operand.tmp 33) (Operand.tmp 48) (Operand.const (Value.bool false)), type := 4, pos := "law.go:120", after := #[{ on := 8, ground := Ground.data }, { on := 23, ground := Ground.data }], guard := none }) (v := ?v27) rfl (by kernel_rfl) (by kernel_rfl) (by kernel_rfl) (fun _ _ _ h => h) (Or.inl ⟨by rfl, ?hy27⟩) hHeld ?_
      case hy27 => (intro w hSw; (try dsimp only at hSw); go_simp; (try with_reducible rfl))
      (try simp only [Act.put, List.setIfInBounds_toArray, List.set_cons_zero, List.set_cons_succ])
      refine wpAnyH_take (i := 25) (oi := { dst := some 4, op := Op.assign (Operand.tmp 49), type := 4, pos := "law.go:120", after := #[{ on := 24, ground := Ground.data }, { on := 22, ground := Ground.chain }, { on := 0, ground := Ground.phase }, { on := 1, ground := Ground.phase }, { on := 2, ground := Ground.phase }, { on := 3, ground := Ground.phase }, { on := 4, ground := Ground.phase }, { on := 5, ground := Ground.phase }, { on := 6, ground := Ground.phase }, { on := 7, ground := Ground.phase }, { on := 8, ground := Ground.phase }, { on := 9, ground := Ground.phase }, { on := 10, ground := Ground.phase }, { on := 11, ground := Ground.phase }, { on := 12, ground := Ground.phase }, { on := 13, ground := Ground.phase }, { on := 14, ground := Ground.phase }, { on := 15, ground := Ground.phase }, { on := 16, ground := Ground.phase }, { on := 17, ground := Ground.phase }, { on := 18, ground := Ground.phase }, { on := 19, ground := Ground.phase }, { on := 20, ground := Ground.phase }, { on := 21, ground := Ground.phase }, { on := 22, ground := Ground.phase }, { on := 23, ground := Ground.phase }, { on := 24, ground := Ground.phase }], guard := none }) (v := ?v28) rfl (by kernel_rfl) (by kernel_rfl) (by kernel_rfl) (fun _ _ _ h => h) (Or.inl ⟨by rfl, ?hy28⟩) hHeld ?_
      case hy28 => (intro w hSw; (try dsimp only at hSw); go_simp; (try with_reducible rfl))
      (try simp only [Act.put, List.setIfInBounds_toArray, List.set_cons_zero, List.set_cons_succ])
      refine wpAnyH_done (by kernel_rfl) ?_ _
      rotate_left
      exact AllReadyH.nil
      exact AllReadyH.nil
      exact AllReadyH.nil
      exact AllReadyH.nil
      exact AllReadyH.nil
      all_goals
        have BF := hid (BB.out.trans (hHeld.mono BB.out.size))
        clear r1 r2 s1 s2 q1 q2 q3
        go_wp2
        go_ret
        exact ⟨rfl, BF.out⟩
end Go.Proofs.YtpncdgogefhjlaaDoor
