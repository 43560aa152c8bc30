/- A transaction's name: Id. -/
import Derived.Test.YtdopbhahcpjjgaaDoorChd
import Derived.Test.YtdopbhahcpjjgaaDoorTagA
import Derived.Test.YtdopbhahcpjjgaaDoorReg
namespace Go.Proofs.YtdopbhahcpjjgaaDoor
open Go.RowKit

theorem zv_of {t : TypeId} {Z : Array Value} (h : (Tryd.prog.info? t).map (·.zero) = some (some (.agg Z))) (w : World) : (zeroValue t).run Tryd.prog w = .ok (.agg Z) w := by
  cases hi : Tryd.prog.info? t with
  | none => rw [hi] at h; cases h
  | some i =>
    rw [hi] at h
    simp only [Option.map_some, Option.some.injEq] at h
    simp [zeroValue, typeInfo, hi, h]
def zh : List Nat := List.replicate 32 0
def nmTx : ByteArray := ⟨#[109, 111, 110, 101, 121, 101, 114, 47, 116, 120]⟩
def idB (t : TxD) : List Nat := if t.code = 0 then sha (tagH nmTx ++ bodyB t) else zh
theorem outsC_zero : ∀ {os : List OutD}, outsC os = 0 → ∀ o ∈ os, o.code = 0
  | [], _, o, ho => by simp at ho
  | x :: r, h, o, ho => by
    rw [outsC] at h
    split at h
    · rename_i hx
      rcases List.mem_cons.1 ho with rfl | ho
      · exact hx
      · exact outsC_zero h o ho
    · rename_i hx; exact absurd h hx
theorem code_zero {t : TxD} (h : t.code = 0) : t.ins.length ≤ 256 ∧ t.outs.length ≤ 256 ∧ ∀ o ∈ t.outs, o.paths.length ≤ 4 := by
  unfold TxD.code at h
  split at h
  · omega
  · rename_i h1
    split at h
    · omega
    · split at h
      · rename_i h3; exact absurd h h3
      · split at h
        · rename_i h4; exact absurd h h4
        · rename_i h4
          refine ⟨by omega, by omega, fun o ho => ?_⟩
          have h5 : outsC t.outs = 0 := Classical.byContradiction h4
          have := outsC_zero h5 o ho
          unfold OutD.code at this
          split at this
          · omega
          · omega
theorem bodyB_lt {t : TxD} {w : World} (h : t.good w) (h4 : ∀ o ∈ t.outs, o.paths.length ≤ 4) : ∀ d ∈ bodyB t, d < 256 := by
  intro d hd
  unfold bodyB at hd
  simp only [List.mem_append, List.mem_cons, List.not_mem_nil, or_false, List.mem_flatMap] at hd
  rcases hd with (rfl | rfl) | ⟨i, hi, hd⟩ | ⟨o, ho, hd⟩
  · omega
  · omega
  · simp only [inB, List.mem_append] at hd
    rcases hd with hd | hd
    · exact (h.iok i hi).tx.2 d hd
    · exact f4_lt _ d hd
  · have og := h.ook o ho
    simp only [outB, List.mem_append, List.mem_cons, List.mem_flatMap] at hd
    rcases hd with hd | hd | hd | rfl | ⟨p, hp, hd⟩
    · exact f4_lt _ d hd
    · exact f4_lt _ d hd
    · exact og.anchor.2 d hd
    · have := h4 o ho; omega
    · have pk := og.ok p hp
      simp only [pathB, List.mem_append] at hd
      rcases hd with hd | hd | hd | hd | hd
      · exact pk.own.2 d hd
      · exact pk.also.2 d hd
      · exact pk.lock.2 d hd
      · exact f4_lt _ d hd
      · exact f4_lt _ d hd
/-- one part, whatever turns at g -/
theorem part1F {wx : World} {g P n c : Nat} {T : TypeId} {a : Option Addr} {b : List Nat} (hP : wx.heap[P]? = some (.cells #[.slice a n c] T (0, 0))) (hb : ∀ w', Far g wx w' → Sl .u8 w' a n c b) (hb8 : ∀ d ∈ b, d < 256) (hn : n ≤ 140737488351232) (hPg : P ≠ g) : ∀ w', Far g wx w' → Parts w' (some ⟨P, 0, none⟩) 1 1 [⟨a, c, b⟩] := by
  intro w' hf
  have hP' := heap_far hP hf hPg
  have hl : b.length = n := (hb w' hf).len
  refine ⟨⟨by simp [BS.cells], Nat.le_refl _, by decide, (fun e => nomatch e), P, 0, fun _ => rfl, fun j u hu => ?_⟩, rfl, fun l hl' => ?_⟩
  · have := gen_cell (j := j) (row_range (L := [.slice a n c]) hP') (v := u) (by simpa [BS.cells, hl] using hu)
    simpa using this
  · simp only [List.mem_cons, List.not_mem_nil, or_false] at hl'
    subst hl'
    exact ⟨by rw [show (BS.mk a c b).v.length = n from hl]; exact hb w' hf, hb8, by rw [show (BS.mk a c b).v.length = n from hl]; exact hn⟩
set_option maxRecDepth 100000 in
set_option maxHeartbeats 8000000 in
theorem cid_walk (t : TxD) (w : World) (h : t.good w) (ht : Tabs w) : Calls Tryd.prog 9 #[.agg t.cells.toArray] w fun e w' => e = .returned (.agg (nums .u8 (idB t)).toArray) ∧ Below w.heap.size w w' := by
  have G := hid h
  have HT := hid ht
  obtain ⟨tc, htc⟩ : ∃ tc, tc = t.cells := ⟨_, rfl⟩
  have TL := hid (show tc.length = 2 by rw [htc]; rfl)
  obtain ⟨zz, hzz⟩ : ∃ zz : List Nat, zz = zh := ⟨_, rfl⟩
  have ZH : ∀ w : World, (zeroValue 27).run Tryd.prog w = .ok (.agg (nums .u8 zz).toArray) w := by rw [hzz]; exact zv_of (by kernel_rfl)
  have HZZ := hid hzz
  have lz := hid (show zz.length = 32 by rw [hzz]; rfl)
  have A2 := alloc2p w (.cells tc.toArray 25) (.cells (nums .u8 zz).toArray 27)
  have HA := hid A2.1
  have HR := hid A2.2.1
  have B1 := hid A2.2.2.2
  have CK := fun (wx : World) (bx : Below w.heap.size w wx) => hid (show Calls Tryd.prog 8 #[.agg tc.toArray] wx _ from by rw [htc]; exact tcheck_walk t wx (G.out.below bx))
  have hiT := hid (show (Tryd.prog.info? 25).map (·.size) = some tc.length by rw [TL.out]; kernel_rfl)
  have HTC := hid htc
  rw [← htc]
  clear h ht A2 hzz htc
  go_enter Tryd.func9, Tryd.ntmps9
  go_upto_region 1 with (fail)
  generalize (w.alloc (.cells tc.toArray 25)).alloc (.cells (nums .u8 zz).toArray 27) = w1 at *
  have rT := row_range HA.out
  go_wp2_with (with_reducible refine wpList_load_mid rfl _ _ rfl w.heap.size 0 rfl tc _ rT Tryd.underlying25 rfl hiT.out ?_)
  refine (CK w1 B1.out).out.mono ?_
  rintro e w2 ⟨rfl, b2⟩
  have B2 := hid b2
  have BW2 := hid (show Below w.heap.size w w2 from B1.out.trans (b2.mono B1.out.size))
  have HR2 := hid (heap_keep HR.out b2)
  have HA2 := hid (heap_keep HA.out b2)
  clear b2 rT
  by_cases hz : t.code = 0
  case neg =>
    have v1 : ((t.code : Int) == 0) = false := by rw [beq_eq_false_iff_ne]; omega
    have HZ := hid hz
    have hiZ := hid (show (Tryd.prog.info? 27).map (·.size) = some (nums .u8 zz).toArray.size by rw [List.size_toArray, nums_length, lz.out]; kernel_rfl)
    have hz1 := hid (all_oneCell_toArray (nums_oneCell .u8 zz))
    clear hz
    go_upto_region 2 with (fail)
    go_wp2_with (refine wpList_store_row rfl _ _ _ rfl (w.heap.size + 1) (nums .u8 zz).toArray rfl rfl _ _ HR2.out hiZ.out rfl hz1.out ?_)
    refine bodyPost_ret (results_cellH rfl _ _ (w.heap.size + 1) _ (nums .u8 zz).toArray _ _ rfl (setRow_heap _ _ _ _ _ _ HR2.out) Tryd.underlying27 rfl hiZ.out) rfl ?_
    refine ⟨by unfold idB; rw [if_neg HZ.out, HZZ.out], below_setRow BW2.out (by omega) _⟩
  have v1 : ((t.code : Int) == 0) = true := by rw [beq_iff_eq]; omega
  have CZ := hid (code_zero hz)
  have IDB := hid (show idB t = sha (tagH nmTx ++ bodyB t) from by unfold idB; rw [if_pos hz])
  clear hz
  go_upto_region 3 with (fail)
  have rT2 := hid (row_range HA2.out)
  have W1 := hid (show w.heap.size + 1 < w1.heap.size from (Array.getElem?_eq_some_iff.1 HR.out).1)
  have CB := fun (wx : World) (bx : Below w.heap.size w wx) => hid (show Calls Tryd.prog 27 #[.agg tc.toArray] wx _ from by rw [HTC.out]; exact cbody_walk t wx (G.out.below bx) CZ.out.1 CZ.out.2.1 CZ.out.2.2)
  have B8 := hid (bodyB_lt G.out CZ.out.2.2)
  have BLEN := hid (show (bodyB t).length ≤ 1048576 from by
    have h1 := outsB_len (os := t.outs) (fun o ho => ⟨(G.out.ook o ho).anchor.1, (G.out.ook o ho).ok, CZ.out.2.2 o ho⟩)
    have h2 := insB_len (is := t.ins) G.out.iok
    have h3 := CZ.out
    unfold bodyB
    simp only [List.length_append, List.length_cons, List.length_nil, h2]
    omega)
  obtain ⟨bd, hbd⟩ : ∃ bd, bd = bodyB t := ⟨_, rfl⟩
  obtain ⟨n, hn⟩ : ∃ n, n = bd.length := ⟨_, rfl⟩
  have HBD := hid (And.intro hbd hn)
  have NLE := hid (show n ≤ 1048576 by rw [hn, hbd]; exact BLEN.out)
  rw [← hbd] at B8 IDB CB
  have hi6 := hid (show (Tryd.prog.info? 27).map (·.size) = some (nums .u8 (idB t)).toArray.size by rw [List.size_toArray, nums_length, IDB.out, sha_len]; kernel_rfl)
  have ho6 := hid (show (nums .u8 zz).toArray.size = (nums .u8 (idB t)).toArray.size by rw [List.size_toArray, List.size_toArray, nums_length, nums_length, lz.out, IDB.out, sha_len])
  have h16 := hid (all_oneCell_toArray (nums_oneCell .u8 (idB t)))
  clear hbd hn
  refine wp_region_X (l := 5) (S := fun b w' => Below w.heap.size w w' ∧ (b = false → Below w2.heap.size w2 w')) (by kernel_rfl) (⟨BW2.out.trans ((Below.refl _ _).drew.mono BW2.out.size), fun _ => (Below.refl _ _).drew⟩) (fun hHeld => ?_)
  try simp only [List.size_toArray, List.length_cons, List.length_nil, Nat.reduceAdd, Array.replicate_succ, Array.replicate_zero, List.push_toArray, List.nil_append, List.cons_append]
  refine' wpAnyX_takeE (i := 1) (oi := { dst := some 8, op := Op.load 25 (Operand.tmp 1), type := 25, pos := "chain.go:125", after := #[], guard := none }) (v := _) rfl (by kernel_rfl) (by kernel_rfl) (by kernel_rfl) (fun _ _ _ h => h) rfl (by kernel_rfl) (by kernel_rfl) (by kernel_rfl) (yieldsIf_load_mid (by rfl) _ _ rfl w.heap.size 0 rfl tc _ (fun _ h => range_keep (h.2 rfl) rT2.out) Tryd.underlying25 rfl hiT.out) hHeld ?_
  (try simp only [Act.put, List.setIfInBounds_toArray, List.set_cons_zero, List.set_cons_succ])
  refine wpAnyX_ready (rs := [0]) (by kernel_rfl) (by simp) ?_
  refine AllReadyX.cons (o := { dst := some 7, op := Op.call { callee := Callee.value (Operand.func 25), args := #[Operand.const (Value.string { data := #[109, 111, 110, 101, 121, 101, 114, 47, 116, 120] })], argTypes := #[9] }, type := 70, pos := "chain.go:125", after := #[], guard := none }) rfl (b := false) (by kernel_rfl) (fun K hK => ?_) ?_
  go_simp; refine (newtag_walk nmTx _).mono ?_; rintro e w3 ⟨gt, cur, rfl, hg, hc, hN, b3⟩; have HG := hid hc; have GL := hid (show w2.heap.size ≤ gt from Nat.le_trans (hHeld.2 rfl).size hg); have TN := hid hN; have BT := hid b3; clear hg hc hN b3
  refine hK.out _ _ (⟨hHeld.1.trans (BT.out.mono hHeld.1.size), fun e => (hHeld.2 e).trans (BT.out.mono (hHeld.2 e).size)⟩) (fun hHeld => ?_)
  clear hK K
  (try simp only [List.setIfInBounds_toArray, List.set_cons_zero])
  refine wpAnyX_ready (rs := [2]) (by kernel_rfl) (by simp) ?_
  refine AllReadyX.cons (o := { dst := some 9, op := Op.call { callee := Callee.value (Operand.func 27), args := #[Operand.tmp 8], argTypes := #[25] }, type := 73, pos := "chain.go:125", after := #[{ on := 1, ground := Ground.data }, { on := 0, ground := Ground.chain }], guard := none }) rfl (b := false) (by kernel_rfl) (fun K hK => ?_) ?_
  go_simp; refine (CB _ hHeld.1).out.mono ?_; rintro e w4 ⟨v4, rfl, o4, b4⟩; rw [← HBD.out.2] at o4; obtain ⟨a4, c4, rfl, _⟩ := Rd.of_owns o4; have O4 := hid o4; have B4 := hid b4; have HG4 := hid (heap_keep HG.out b4); have GT4 := hid (show ∀ x, (Value.slice a4 n c4).ownBlock = some x → x ≠ gt from fun x hx => by have := (O4.out.lt x hx).1; have := (Array.getElem?_eq_some_iff.1 HG.out).1; omega); clear o4 b4
  refine hK.out _ _ (⟨hHeld.1.trans (B4.out.mono hHeld.1.size), fun e => (hHeld.2 e).trans (B4.out.mono (hHeld.2 e).size)⟩) (fun hHeld => ?_)
  clear hK K
  (try simp only [List.setIfInBounds_toArray, List.set_cons_zero, List.set_cons_succ])
  refine wpAnyX_ready (rs := [3]) (by kernel_rfl) (by simp) ?_
  refine AllReadyX.cons (o := { dst := some 10, op := Op.buildSlice 117 1 #[(0, Operand.tmp 9)], type := 117, pos := "chain.go:125", after := #[{ on := 2, ground := Ground.data }], guard := none }) rfl (b := false) (by kernel_rfl) (fun K hK => ?_) ?_
  go_simp; (first | refine newZ ?_ | refine newZd ?_); intro w5 HP B5
  refine hK.out _ _ (⟨hHeld.1.trans (B5.out.mono hHeld.1.size), fun e => (hHeld.2 e).trans (B5.out.mono (hHeld.2 e).size)⟩) (fun hHeld => ?_)
  clear hK K
  (try simp only [List.setIfInBounds_toArray, List.set_cons_zero, List.set_cons_succ])
  refine wpAnyX_ready (rs := [4]) (by kernel_rfl) (by simp) ?_
  refine AllReadyX.cons (o := { dst := some 11, op := Op.call { callee := Callee.value (Operand.func 26), args := #[Operand.tmp 7, Operand.tmp 10], argTypes := #[70, 117] }, type := 27, pos := "chain.go:125", after := #[{ on := 0, ground := Ground.data }, { on := 3, ground := Ground.data }, { on := 2, ground := Ground.chain }], guard := none }) rfl (b := false) (by kernel_rfl) (fun K hK => ?_) ?_
  go_simp; have TS := tsum_walk gt 0 116 nmTx cur (some ⟨w4.heap.size, 0, none⟩) 1 1 [⟨a4, c4, bd⟩] w5 (by decide) (heap_keep HG4.out B5.out) (.inl TN.out) (part1F HP.out (fun w' hf => by (have o := (Keep.far' hf).own (ownKB O4.out B5.out) (fun g hg e => GT4.out g hg e)); obtain ⟨a', c', e', hr⟩ := Rd.of_owns o; simp only [Value.slice.injEq] at e'; obtain ⟨rfl, _, rfl⟩ := e'; exact hr) B8.out (by have := NLE.out; omega) (by have := (Array.getElem?_eq_some_iff.1 HG4.out).1; omega)) (by have h1 := HBD.out.2; have h2 := NLE.out; simp [flat]; omega) (by decide) (HT.out.below hHeld.1) (by have := World.block_lt_of_cell? w _ (HT.out.1 0 (by decide)); have h2 := GL.out; have h3 := W1.out; have h4 := B2.out.size; dsimp only at this; omega) (by have := World.block_lt_of_cell? w _ (HT.out.2 0 (by decide)); have h2 := GL.out; have h3 := W1.out; have h4 := B2.out.size; dsimp only at this; omega); rw [show flat [⟨a4, c4, bd⟩] = bd by simp [flat]] at TS; refine TS.mono ?_; clear TS; rintro e w6 ⟨rfl, f6, _⟩; have F6 := hid f6; clear f6; rw [← IDB.out, show hv (idB t) = .agg (nums .u8 (idB t)).toArray from rfl]
  refine hK.out _ _ (⟨hHeld.1.trans (F6.out.below (by have := GL.out; have := B2.out.size; have := W1.out; omega) hHeld.1.size), fun e => (hHeld.2 e).trans (F6.out.below GL.out (hHeld.2 e).size)⟩) (fun hHeld => ?_)
  clear hK K
  (try simp only [List.setIfInBounds_toArray, List.set_cons_zero, List.set_cons_succ])
  refine wpAnyX_ready (rs := [5]) (by kernel_rfl) (by simp) ?_
  refine AllReadyX.cons (o := { dst := none, op := Op.store 27 (Operand.tmp 2) (Operand.tmp 11), type := 0, pos := "chain.go:125", after := #[{ on := 4, ground := Ground.data }, { on := 4, ground := Ground.chain }, { on := 0, ground := Ground.phase }, { on := 1, ground := Ground.phase }, { on := 2, ground := Ground.phase }, { on := 3, ground := Ground.phase }, { on := 4, ground := Ground.phase }], guard := none }) rfl (b := true) (by kernel_rfl) (fun K hK => ?_) ?_
  have hr5 := heap_keep HR2.out (hHeld.2 rfl); have HR5 := hid hr5; rw [if_pos (by rfl)]; refine wp_store_row _ _ _ rfl (w.heap.size + 1) (nums .u8 (idB t)).toArray rfl rfl _ _ hr5 hi6.out ho6.out h16.out ?_
  refine hK.out _ _ (⟨below_setRow hHeld.1 (by omega) _, nofun⟩) (fun hHeld => ?_)
  clear hK K
  (try simp only [List.setIfInBounds_toArray, List.set_cons_zero, List.set_cons_succ])
  refine wpAnyX_done (by kernel_rfl) ?_ _
  rotate_left
  exact AllReadyX.nil
  exact AllReadyX.nil
  exact AllReadyX.nil
  exact AllReadyX.nil
  exact AllReadyX.nil
  have BF := hid hHeld.1
  clear hHeld
  go_wp2_with (fail)
  refine bodyPost_ret (results_cellH rfl _ _ (w.heap.size + 1) _ (nums .u8 (idB t)).toArray _ _ rfl (setRow_heap _ _ _ _ _ _ HR5.out) Tryd.underlying27 rfl hi6.out) rfl ?_
  exact ⟨rfl, BF.out⟩
end Go.Proofs.YtdopbhahcpjjgaaDoor
