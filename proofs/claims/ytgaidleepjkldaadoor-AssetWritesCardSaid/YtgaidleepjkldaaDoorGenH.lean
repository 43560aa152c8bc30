/- The law's head and plain; the reference's Same; what reading and writing have to do with each other. -/
import Derived.Test.YtgaidleepjkldaaDoorGenDR
import Derived.Lib.SlBytesConst
namespace Go.Proofs.YtgaidleepjkldaaDoor
open Go.RowKit

theorem decG_bad {bs : List Nat} (h : (decG bs).2 ≠ 0) : (decG bs).1 = gz := by
  unfold decG at *
  split at h
  · rename_i h1; rw [if_pos h1]
  · rename_i h1
    rw [if_neg h1]
    generalize (decS bs).1 = rs at *
    unfold recsG at *
    split at h
    · unfold fourG at *
      split at h
      · rename_i k; rw [if_pos k]
      · rename_i k
        rw [if_neg k]
        split at h
        · rename_i k; rw [if_pos k]
        · rename_i k
          rw [if_neg k]
          split at h
          · rename_i k; rw [if_pos k]
          · rename_i k
            rw [if_neg k]
            split at h
            · rename_i k; rw [if_pos k]
            · exact absurd rfl h
    · rfl
theorem ptb_getP {r : List Nat} (h : (getP r).2.2 = 0) : ptb (getP r).1 (getP r).2.1 = r := by
  unfold getP at *
  split at h
  · rename_i hl
    rw [if_pos hl]
    split at h
    · rename_i hz
      rw [if_pos hz]
      show r.take 32 ++ [0, 0, 0, r.getD 35 0] = r
      have hd : r.drop 32 = [r.getD 32 0, r.getD 33 0, r.getD 34 0, r.getD 35 0] := by
        apply List.ext_getElem
        · simp; omega
        · intro i h1 h2
          rw [List.getElem_drop]
          simp at h2
          have hc : i = 0 ∨ i = 1 ∨ i = 2 ∨ i = 3 := by omega
          rcases hc with rfl | rfl | rfl | rfl
          all_goals simp [List.getD_eq_getElem?_getD, hl]
      rw [hz.1, hz.2.1, hz.2.2] at hd
      rw [← hd]
      exact List.take_append_drop 32 r
    · cases h
  · cases h
theorem decG_ok {bs : List Nat} (hbs : ∀ d ∈ bs, d < 256) (h : (decG bs).2 = 0) : (decG bs).1.check = 0 ∧ (decG bs).1.bytes = bs := by
  unfold decG at *
  split at h
  · rename_i h1; exact absurd h h1
  · rename_i h1
    have h1 : (decS bs).2 = 0 := by omega
    rw [if_neg (by omega)]
    obtain ⟨_, he⟩ := decS_enc hbs h1
    revert h he
    generalize (decS bs).1 = rs
    intro h he
    unfold recsG at *
    split at h
    · rename_i r0 r1 r2 r3
      unfold fourG at *
      split at h
      · cases h
      · rename_i k0
        rw [if_neg k0]
        split at h
        · cases h
        · rename_i k1
          rw [if_neg k1]
          split at h
          · rename_i k2; exact absurd h k2
          · rename_i k2
            rw [if_neg k2]
            split at h
            · rename_i k3; exact absurd h k3
            · rename_i k3
              rw [if_neg k3]
              have k2 : (getP r0.2).2.2 = 0 := by omega
              refine ⟨Classical.byContradiction k3, ?_⟩
              rw [← he]
              show encAll [(0, ptb (getP r0.2).1 (((getP r0.2).2.1 : Nat) : Int).toNat), (2, r1.2), (4, r2.2), (6, [((r3.2.getD 0 0 : Nat) : Int).toNat])] = encAll [r0, r1, r2, r3]
              rw [Int.toNat_natCast, Int.toNat_natCast, ptb_getP k2]
              obtain ⟨t0, v0⟩ := r0
              obtain ⟨t1, v1⟩ := r1
              obtain ⟨t2, v2⟩ := r2
              obtain ⟨t3, v3⟩ := r3
              simp only [not_or, Classical.not_not, ne_eq] at k0 k1
              obtain ⟨rfl, rfl, rfl, rfl⟩ := k0
              match v3, k1.2 with
              | [d], _ => rfl
    · cases h
theorem newG_len : (Gen.bytes ⟨pzero, 0, [120], pzero, 0⟩).length = 78 := by decide
theorem head_cells (g : Nat) : (genZ 0).setIfInBounds 33 (.slice (some ⟨g, 0, none⟩) 1 1) = (Gen.cells ⟨pzero, 0, [120], pzero, 0⟩ (some ⟨g, 0, none⟩) 1).toArray := by
  have h : Value.agg ((genZ 0).setIfInBounds 33 (.slice (some ⟨g, 0, none⟩) 1 1)) = .agg (Gen.cells ⟨pzero, 0, [120], pzero, 0⟩ (some ⟨g, 0, none⟩) 1).toArray := by kernel_rfl
  exact Value.agg.inj h
def TrueH (w : World) (e : Ending) (w' : World) : Prop := e = .returned (.bool true) ∧ Below w.heap.size w w'
set_option maxRecDepth 100000 in
set_option maxHeartbeats 2000000 in
theorem head_walk (w : World) : Calls Tryd.prog 5 #[] w (TrueH w) := by
  have cv := Go.Lib.run_convert_bytes_const (P := Tryd.prog) w 26 5 #[.int .u8 120] 1 1 Tryd.underlying26 Tryd.underlying5
  have S1 : Sl .u8 (w.alloc (.cells #[.int .u8 120] 5 (1, 2))) (some ⟨w.heap.size, 0, none⟩) 1 1 [120] := by
    refine ⟨rfl, by decide, by decide, (fun e => by cases e), w.heap.size, 0, fun _ => rfl, fun j u hu => ?_⟩
    rw [Nat.zero_add, World.cell?_alloc_mark]
    simpa [nums] using hu
  have B0 := hid ((Below.refl w.heap.size w).alloc (Nat.le_refl _) (.cells #[.int .u8 120] 5 (1, 2)))
  have hC : (#[Value.int .u8 120] : Array Value).size = 1 := rfl
  rw [hC] at cv
  clear hC
  generalize hW : w.alloc (.cells #[.int .u8 120] 5 (1, 2)) = W at *
  clear hW
  have hg : Gen.good ⟨pzero, 0, [120], pzero, 0⟩ W (some ⟨w.heap.size, 0, none⟩) 1 := ⟨rfl, by intro d hd; simp [pzero] at hd; omega, rfl, by intro d hd; simp [pzero] at hd; omega, by simp, by decide, by decide, by decide, S1⟩
  have E := hid (genc_walk _ _ _ W hg)
  rw [← head_cells] at E
  have ZV := zeroGen
  have hck : Gen.check ⟨pzero, 0, [120], pzero, 0⟩ = 0 := by decide
  unfold GEnc at E
  rw [hck, if_pos rfl] at E
  have HL := hid newG_len
  have hz := genZ_size
  clear hg hck S1
  generalize genZ 0 = Z at *
  go_enter Tryd.func5, Tryd.ntmps5
  go_wp2_with fail
  refine E.out.mono ?_
  rintro e w1 ⟨v, rfl, ⟨a1, c1, rfl, s1⟩, b1⟩
  rw [HL.out] at s1 ⊢
  have BZ := hid (bstep B0.out b1)
  go_wp2
  go_ret
  exact ⟨rfl, BZ.out⟩
set_option maxRecDepth 100000 in
set_option maxHeartbeats 2000000 in
theorem plain_walk (g : Gen) (a : Option Addr) (c : Nat) (h1 : g.tx.length = 32) (h2 : g.me.length = 32) (w : World) :
    Calls Tryd.prog 9 #[.agg (g.cells a c).toArray] w fun e w' => e = .returned (.agg (g.cells a c).toArray) ∧ Below w.heap.size w w' := by
  have ZV := zeroRGen
  have hz := genZ_size
  have A2 := alloc2p w (.cells (g.cells a c).toArray 28) (.cells (genZ 0) 36)
  have hr : ((w.alloc (.cells (g.cells a c).toArray 28)).alloc (.cells (genZ 0) 36)).rangeAt w.heap.size 0 (g.cells a c) := row_range A2.1
  have hA := hid A2.2.1
  have hB := hid (below_setRow A2.2.2.2 (Nat.le_succ _) (g.cells a c).toArray)
  have hQ := hid (setRow_heap _ (w.heap.size + 1) _ (g.cells a c).toArray _ _ A2.2.1)
  have hne : ¬ (genZ 0) = #[] := by intro e; have := genZ_size; rw [e] at this; exact absurd this (by decide)
  obtain ⟨e1, e2, e3, _, e5, e6⟩ := Gen.at' a c h1 h2
  have c1 := gen_cell hr e1
  have c2 := gen_cell hr e2
  have c3 := gen_cell hr e3
  have r1 := gen_range hr 0 32
  rw [List.drop_zero, e5] at r1
  have r2 := gen_range hr 34 32
  rw [e6] at r2
  have HBT := hid (built_rgen g a c h1 h2)
  have hC := Gen.len a c h1 h2
  have hiC := hid (show (Tryd.prog.info? 36).map (·.size) = some (g.cells a c).toArray.size by rw [List.size_toArray, hC]; exact infoRGen)
  have hzC := hid (show (genZ 0).size = (g.cells a c).toArray.size from hz.trans (by rw [List.size_toArray, hC]))
  have hoC := hid (all_oneCell_toArray (Gen.one g a c))
  have hi1 := hid (show (Tryd.prog.info? 23).map (·.size) = some (nums .u8 g.tx).length by rw [nums_length, h1]; exact infoH)
  have hi2 := hid (show (Tryd.prog.info? 23).map (·.size) = some (nums .u8 g.me).length by rw [nums_length, h2]; exact infoH)
  generalize genZ 0 = Z at *
  clear A2 hr e1 e2 e3 e5 e6 h1 h2 hC
  generalize g.cells a c = CS at *
  generalize nums .u8 g.tx = TL at *
  generalize nums .u8 g.me = ML at *
  go_enter Tryd.func9, Tryd.ntmps9
  go_wp2_with (first | refine wpList_load_mid rfl _ _ rfl w.heap.size 0 rfl TL _ r1 Tryd.underlying23 rfl hi1.out ?_ | refine wpList_load_mid rfl _ _ rfl w.heap.size 34 rfl ML _ r2 Tryd.underlying23 rfl hi2.out ?_ | refine wpList_build5 rfl _ _ _ _ _ _ rfl HBT.out rfl rfl rfl rfl rfl ?_ | refine wpList_store_row rfl _ _ _ rfl (w.heap.size + 1) CS.toArray rfl rfl _ _ hA.out hiC.out hzC.out hoC.out ?_)
  (try simp only [Exit.inBlock, Exit.then])
  refine bodyPost_ret (results_cellH rfl _ _ (w.heap.size + 1) _ CS.toArray _ _ rfl hQ.out Tryd.underlying36 rfl hiC.out) rfl ?_
  exact ⟨rfl, hB.out⟩
theorem keyArr : KeyT 22 2 := ⟨by kernel_rfl, by kernel_rfl, by kernel_rfl, by decide, by kernel_rfl⟩
theorem kv_arr {xs : List Nat} (hl : xs.length = 32) (hb : ∀ d ∈ xs, d < 256) : KV 22 (.agg (nums .u8 xs).toArray) :=
  KV.mk keyArr.wide (by kernel_rfl) (by rw [nums_length, hl]; kernel_rfl) (fun d => KL.bytes (d := d + 6) Tryd.underlying22 (by kernel_rfl) hl hb)
set_option maxRecDepth 100000 in
set_option maxHeartbeats 2000000 in
theorem rsame_walk (g : Gen) (a : Option Addr) (c : Nat) (a' : Option Addr) (c' : Nat) (w : World) (h : g.good w a c) (h' : g.good w a' c') :
    Calls Tryd.prog 8 #[.agg (g.cells a c).toArray, .agg (g.cells a' c').toArray] w fun e w' => e = .returned (.bool true) ∧ Below w.heap.size w w' := by
  have A2 := alloc2p w (.cells (g.cells a c).toArray 36) (.cells (g.cells a' c').toArray 36)
  have hr := row_range A2.1
  have hr' := row_range A2.2.1
  have HB := hid A2.2.2.2
  have s1 := h.sl.below A2.2.2.2
  have s2 := h'.sl.below A2.2.2.2
  have SS := fun wx k1 k2 => hid (same_self a a' g.nm.length c g.nm.length c' g.nm h.nb wx k1 k2)
  obtain ⟨e1, e2, e3, _, e5, e6⟩ := Gen.at' a c h.tl h.ml
  obtain ⟨e1', e2', e3', _, e5', e6'⟩ := Gen.at' a' c' h.tl h.ml
  have c1 := gen_cell hr e1
  have c2 := gen_cell hr e2
  have c3 := gen_cell hr e3
  have c1' := gen_cell hr' e1'
  have c2' := gen_cell hr' e2'
  have c3' := gen_cell hr' e3'
  have r1 := gen_range hr 0 32
  rw [List.drop_zero, e5] at r1
  have r2 := gen_range hr 34 32
  rw [e6] at r2
  have r1' := gen_range hr' 0 32
  rw [List.drop_zero, e5'] at r1'
  have r2' := gen_range hr' 34 32
  rw [e6'] at r2'
  have eT := keyArr.eql (kv_arr h.tl h.tb) (kv_arr h.tl h.tb) (p := True) (by simp)
  have gT := keyArr.guarded (nums .u8 g.tx).toArray (nums .u8 g.tx).toArray
  have eM := keyArr.eql (kv_arr h.ml h.mb) (kv_arr h.ml h.mb) (p := True) (by simp)
  have gM := keyArr.guarded (nums .u8 g.me).toArray (nums .u8 g.me).toArray
  have hi1 := hid (show (Tryd.prog.info? 22).map (·.size) = some (nums .u8 g.tx).length by rw [nums_length, h.tl]; exact info32)
  have hi2 := hid (show (Tryd.prog.info? 22).map (·.size) = some (nums .u8 g.me).length by rw [nums_length, h.ml]; exact info32)
  clear e1 e2 e3 e5 e6 e1' e2' e3' e5' e6' hr hr' A2 h h'
  generalize nums .u8 g.tx = TL at *
  generalize nums .u8 g.me = ML at *
  go_enter Tryd.func8, Tryd.ntmps8
  go_upto_region 1 with (fail)
  generalize (w.alloc (.cells (g.cells a c).toArray 36)).alloc (.cells (g.cells a' c').toArray 36) = W at *
  have SX := hid (SS W s1 s2).out
  clear SS s1 s2
  go_wp2_with (first | refine wpList_load_midG rfl _ _ rfl w.heap.size 0 rfl TL _ r1 Tryd.underlying22 rfl hi1.out ?_ | refine wpList_load_midG rfl _ _ rfl (w.heap.size + 1) 0 rfl TL _ r1' Tryd.underlying22 rfl hi1.out ?_ | refine wpList_load_midG rfl _ _ rfl w.heap.size 34 rfl ML _ r2 Tryd.underlying22 rfl hi2.out ?_ | refine wpList_load_midG rfl _ _ rfl (w.heap.size + 1) 34 rfl ML _ r2' Tryd.underlying22 rfl hi2.out ?_ | (go_at_call 10; refine SX.out.mono ?_; rintro e wS ⟨rfl, rfl⟩))
  go_ret
  exact ⟨rfl, HB.out⟩
end Go.Proofs.YtgaidleepjkldaaDoor
