/- The walk of (*sha.Hasher).Sum. -/
import Derived.Test.YtnophelfpoldfaaGreatDoorGShaP
import Derived.Test.YtnophelfpoldfaaGreatDoorGShaE
namespace Go.Proofs.YtnophelfpoldfaaGreatDoor
open Go.RowKit

theorem alloc3 (w : World) (a b c : Obj) : (((w.alloc a).alloc b).alloc c).heap[w.heap.size]? = some a ∧ (((w.alloc a).alloc b).alloc c).heap[w.heap.size + 1]? = some b ∧ (((w.alloc a).alloc b).alloc c).heap[w.heap.size + 1 + 1]? = some c ∧
    (((w.alloc a).alloc b).alloc c).heap.size = w.heap.size + 1 + 1 + 1 ∧ Below w.heap.size w (((w.alloc a).alloc b).alloc c) := by
  have e1 : (w.alloc a).heap.size = w.heap.size + 1 := by simp
  have e2 : ((w.alloc a).alloc b).heap.size = w.heap.size + 1 + 1 := by simp
  have h0 := heap_alloc_new w a
  have h1 := heap_alloc_new (w.alloc a) b
  have h2 := heap_alloc_new ((w.alloc a).alloc b) c
  rw [e1] at h1
  rw [e2] at h2
  refine ⟨?_, ?_, h2, by simp, (((Below.refl w.heap.size w).alloc (Nat.le_refl _) a).alloc (by omega) b).alloc (by omega) c⟩
  · rw [Below.heap_alloc _ _ _ (by omega), Below.heap_alloc _ _ _ (by omega)]; exact h0
  · rw [Below.heap_alloc _ _ _ (by omega)]; exact h1
theorem zero128 : Tryz.zeroCells157.toList = nums .u8 (List.replicate 128 0) := by kernel_rfl
theorem by24 {y : Nat} (h : y < 4294967296) : (y : Int) / 16777216 = ((y / 16777216 % 256 : Nat) : Int) := by omega
theorem by16 (y : Nat) : (y : Int) / 65536 % 256 = ((y / 65536 % 256 : Nat) : Int) := by omega
theorem by8 (y : Nat) : (y : Int) / 256 % 256 = ((y / 256 % 256 : Nat) : Int) := by omega
theorem by0 (y : Nat) : (y : Int) % 256 = ((y % 256 : Nat) : Int) := by omega
def SumRes (A : List Nat) (w : World) (e : Ending) (w' : World) : Prop := e = .returned (hv (sha A)) ∧ Below w.heap.size w w'
set_option maxRecDepth 100000 in
set_option maxHeartbeats 4000000 in
theorem hsum_walk (H ho : Nat) (T : TypeId) (cur : Array Value) (S R : List Nat) (k : Nat) (all : List Nat) (w : World) (hH : w.heap[H]? = some (.cells cur T (0, 0)))
    (hA : HsAt cur ho S R k all.length) (hT : Took all S R k) (hlen : all.length < 2305843009213693952) (ht : Tabs w) :
    Calls Tryz.prog 62 #[.pointer (some ⟨H, ho, none⟩)] w (SumRes all w) := by
  have HT := hid ht
  have HA := hid hA
  have HTK := hid hT
  have HH := hid hH
  have ce := fun j => cell_of_row w H j cur T (0, 0) hH
  have s0 : w.cell? ⟨H, ho, none⟩ = some (.int .u32 ((S.getD 0 0 : Nat) : Int)) := by rw [ce]; exact hA.s 0 (by omega)
  have s1 : w.cell? ⟨H, ho + 1, none⟩ = some (.int .u32 ((S.getD 1 0 : Nat) : Int)) := by rw [ce]; exact hA.s 1 (by omega)
  have s2 : w.cell? ⟨H, ho + 2, none⟩ = some (.int .u32 ((S.getD 2 0 : Nat) : Int)) := by rw [ce]; exact hA.s 2 (by omega)
  have s3 : w.cell? ⟨H, ho + 3, none⟩ = some (.int .u32 ((S.getD 3 0 : Nat) : Int)) := by rw [ce]; exact hA.s 3 (by omega)
  have s4 : w.cell? ⟨H, ho + 4, none⟩ = some (.int .u32 ((S.getD 4 0 : Nat) : Int)) := by rw [ce]; exact hA.s 4 (by omega)
  have s5 : w.cell? ⟨H, ho + 5, none⟩ = some (.int .u32 ((S.getD 5 0 : Nat) : Int)) := by rw [ce]; exact hA.s 5 (by omega)
  have s6 : w.cell? ⟨H, ho + 6, none⟩ = some (.int .u32 ((S.getD 6 0 : Nat) : Int)) := by rw [ce]; exact hA.s 6 (by omega)
  have s7 : w.cell? ⟨H, ho + 7, none⟩ = some (.int .u32 ((S.getD 7 0 : Nat) : Int)) := by rw [ce]; exact hA.s 7 (by omega)
  have ck : w.cell? ⟨H, ho + 72, none⟩ = some (.int .i64 (k : Int)) := by rw [ce]; exact hA.k
  have hk64 : k < 64 := by rw [hT.kk]; exact Nat.mod_lt _ (by omega)
  have HS := hid (list8_of hA.sl (show stOf S = ⟨S.getD 0 0, S.getD 1 0, S.getD 2 0, S.getD 3 0, S.getD 4 0, S.getD 5 0, S.getD 6 0, S.getD 7 0⟩ from rfl))
  have i1 : (0 : Int) ≤ (k : Int) := by omega
  have i2 : (k : Int) ≤ 64 := by omega
  have hHlt : H < w.heap.size := (Array.getElem?_eq_some_iff.1 hH).1
  have hHne : ¬ H = w.heap.size := by omega
  clear hH hA hT ht ce
  generalize S.getD 0 0 = z0 at *
  generalize S.getD 1 0 = z1 at *
  generalize S.getD 2 0 = z2 at *
  generalize S.getD 3 0 = z3 at *
  generalize S.getD 4 0 = z4 at *
  generalize S.getD 5 0 = z5 at *
  generalize S.getD 6 0 = z6 at *
  generalize S.getD 7 0 = z7 at *
  go_enter Tryz.func62, Tryz.ntmps62
  go_wp2
  have A3 := alloc3 w (.cells #[.int .u8 0, .int .u8 0, .int .u8 0, .int .u8 0, .int .u8 0, .int .u8 0, .int .u8 0, .int .u8 0, .int .u8 0, .int .u8 0, .int .u8 0, .int .u8 0, .int .u8 0, .int .u8 0, .int .u8 0, .int .u8 0, .int .u8 0, .int .u8 0, .int .u8 0, .int .u8 0, .int .u8 0, .int .u8 0, .int .u8 0, .int .u8 0, .int .u8 0, .int .u8 0, .int .u8 0, .int .u8 0, .int .u8 0, .int .u8 0, .int .u8 0, .int .u8 0] 62) (.cells #[.int .u32 (z0 : Int), .int .u32 (z1 : Int), .int .u32 (z2 : Int), .int .u32 (z3 : Int), .int .u32 (z4 : Int), .int .u32 (z5 : Int), .int .u32 (z6 : Int), .int .u32 (z7 : Int)] 123) (.cells Tryz.zeroCells157 157)
  generalize (((w.alloc (.cells #[.int .u8 0, .int .u8 0, .int .u8 0, .int .u8 0, .int .u8 0, .int .u8 0, .int .u8 0, .int .u8 0, .int .u8 0, .int .u8 0, .int .u8 0, .int .u8 0, .int .u8 0, .int .u8 0, .int .u8 0, .int .u8 0, .int .u8 0, .int .u8 0, .int .u8 0, .int .u8 0, .int .u8 0, .int .u8 0, .int .u8 0, .int .u8 0, .int .u8 0, .int .u8 0, .int .u8 0, .int .u8 0, .int .u8 0, .int .u8 0, .int .u8 0, .int .u8 0] 62)).alloc (.cells #[.int .u32 (z0 : Int), .int .u32 (z1 : Int), .int .u32 (z2 : Int), .int .u32 (z3 : Int), .int .u32 (z4 : Int), .int .u32 (z5 : Int), .int .u32 (z6 : Int), .int .u32 (z7 : Int)] 123)).alloc (.cells Tryz.zeroCells157 157)) = W3 at *
  generalize hg1 : w.heap.size + 1 = G1 at *
  generalize hg2 : G1 + 1 = G2 at *
  obtain ⟨a0, a1, a2, a3, a4⟩ := A3
  have B3 := hid a4
  have HG0 := hid a0
  have HG1 := hid a1
  have HG2 := hid a2
  have l01 : w.heap.size < G1 := by omega
  have l12 : G1 < G2 := by omega
  clear a0 a1 a2 a3 a4 hg1 hg2 s0 s1 s2 s3 s4 s5 s6 s7
  have SR := hid (((HA.out.rest HH.out).take (m := k) (by omega)).below B3.out)
  have ck3 : W3.cell? ⟨H, ho + 72, none⟩ = some (.int .i64 (k : Int)) := (B3.out.cell (p := ⟨H, ho + 72, none⟩) hHlt).trans ck
  have hz128 := hid zero128
  have hfit : 0 + 128 ≤ Tryz.zeroCells157.size := by
    have := congrArg List.length zero128
    rw [nums_length, List.length_replicate, Array.length_toList] at this
    omega
  clear ck
  go_region_law (first | (refine step_copyF rfl (.tmp 18) (.tmp 26) _ _ rfl Tryz.underlying22 szU8m rfl rfl HG2.out SR.out (nums_oneCell _ _) hfit ?_; intro w4 hh4 hf4))
  rw [show Nat.min k 128 = k from Nat.min_eq_left (by omega)] at hh4 ⊢
  have hDl : (R.take k).length = k := by rw [List.length_take, HTK.out.l]; omega
  have hD256 := hid (show ∀ d ∈ R.take k, d < 256 from fun d hd => HTK.out.b d (List.mem_of_mem_take hd))
  obtain ⟨P1, P2, P3⟩ := took_sum HTK.out
  have EL := hid (endE_lt (n := all.length) hD256.out (by omega))
  have ELn := hid (endE_len (D := R.take k) (n := all.length) (by omega))
  rw [List.take_of_length_le (l := nums .u8 (R.take k)) (by rw [nums_length, hDl]; exact Nat.le_refl _), hz128.out] at hh4
  generalize R.take k = D at *
  have own4 := own_of_heap (B := w.heap.size) (n := 128) (L := nums .u8 (D ++ List.replicate (128 - k) 0)) hh4 (by
    simp only [splice, List.take_zero, List.nil_append, Nat.zero_add, nums_length, nums_replicate, List.drop_replicate, hDl]
    rw [← nums_append, nums_replicate]) (by simp; omega) (by omega) (by decide)
  have hlE : (D ++ List.replicate (128 - k) 0).length = 128 := by simp; omega
  have c4 := own4.cellAt k (by omega)
  rw [nums_get .u8 (by omega)] at c4
  have fzz4 := own4.frozenAt k
  have HO4 := hid own4
  have F4 := hid ((Far.of (Below.refl _ _).drew).trans hf4)
  have own5 := hid (own_store own4 k (z := 128) (d := 128) rfl)
  have F5 := hid (F4.out.trans (Far.set (H := G2) (j := k) (w := w4) (.int .u8 128)))
  have hE1 : (D ++ List.replicate (128 - k) 0).set k 128 = D ++ 128 :: List.replicate (127 - k) 0 := by
    obtain ⟨m, hm⟩ : ∃ m, 128 - k = m + 1 := ⟨127 - k, by omega⟩
    rw [List.set_append_right _ _ (by omega), hDl, Nat.sub_self, hm, List.replicate_succ, List.set_cons_zero]
    congr 3
    omega
  rw [hE1] at own5
  have ck4 : w4.cell? ⟨H, ho + 72, none⟩ = some (.int .i64 (k : Int)) := by
    rw [World.cell?_of_block (F4.out.block H (Nat.lt_of_lt_of_le hHlt B3.out.size) (by simp; omega))]; exact ck3
  have hkI : (k : Int) < 128 := by omega
  have hkI2 : k < 128 := by omega
  have cz4 : w4.cell? ⟨H, ho + 73, none⟩ = some (.int .u64 (all.length : Int)) := by
    rw [World.cell?_of_block (F4.out.block H (Nat.lt_of_lt_of_le hHlt B3.out.size) (by simp; omega)), B3.out.cell (p := ⟨H, ho + 73, none⟩) hHlt, cell_of_row w H _ cur T (0, 0) HH.out]; exact HA.out.n
  generalize (D ++ List.replicate (128 - k) 0).getD k 0 = old4 at *
  have P1' := hid P1
  have P2' := hid P2
  have P3' := hid P3
  have hDl' := hid hDl
  clear own4 hh4 hf4 hE1 hlE P1 P2 P3 ck3 hDl
  by_cases hks : k < 56
  · have tks : decide ((k : Int) ≥ 56) = false := by rw [decide_eq_false_iff_not]; omega
    have tks2 : decide (k ≥ 56) = false := by rw [decide_eq_false_iff_not]; omega
    have hszo := hid (show szOf k = 64 from if_pos hks)
    go_wp2
    generalize hW5 : w4.setCell ⟨G2, k, none⟩ (.int .u8 128) = W5 at *
    obtain ⟨X, hX⟩ : ∃ X : Nat, X = all.length * 8 := ⟨_, rfl⟩
    have eX : (all.length : Int) * 8 = (X : Int) := by omega
    have hXb : X < 18446744073709551616 := by omega
    obtain ⟨E1, hE1⟩ : ∃ E1, E1 = D ++ 128 :: List.replicate (127 - k) 0 := ⟨_, rfl⟩
    rw [← hE1] at own5
    have HE1 := hid hE1
    have HX := hid hX
    have hE1l := hid (show E1.length = 128 by rw [hE1]; simp [hDl'.out]; omega)
    clear hE1 hX c4 fzz4 ck4 hW5 cz4
    go_loopw [38] (fun x0 wr => ∃ i : Nat, i ≤ 8 ∧ x0 = .int .i64 i ∧ wr.ownsRow w.heap.size 157 1 (.slice (some ⟨G2, 0, none⟩) 128 128) 128 (nums .u8 (setsE E1 64 X i)) ∧ Far G2 W3 wr) (fun x0 _ => 8 - (intOf x0).toNat)
    case atStart => exact ⟨0, by omega, rfl, own5.out.1, F5.out⟩
    case round =>
      obtain ⟨i, hi, rfl, how, hf⟩ := hrel
      by_cases hlt : i < 8
      · obtain ⟨j, hj⟩ : ∃ j : Nat, j = 64 - 1 - i := ⟨_, rfl⟩
        have ej : (63 : Int) - (i : Int) = (j : Int) := by omega
        have hj128 : j < 128 := by omega
        have hjI : (j : Int) < 128 := by omega
        have cn : wr.cell? ⟨H, ho + 73, none⟩ = some (.int .u64 (all.length : Int)) := by
          rw [World.cell?_of_block (hf.block H (Nat.lt_of_lt_of_le hHlt B3.out.size) (by simp; omega)), B3.out.cell (p := ⟨H, ho + 73, none⟩) hHlt, cell_of_row w H _ cur T (0, 0) HH.out]; exact HA.out.n
        have hlS : (setsE E1 64 X i).length = 128 := by rw [setsE_len]; exact hE1l.out
        have cj := how.cellAt j (by omega)
        rw [nums_get .u8 (by omega)] at cj
        have fj := how.frozenAt j
        have OW := hid (own_store how j (z := ((X / 256 ^ i % 256 : Nat) : Int)) rfl)
        have HN := hid (show setsE E1 64 X (i + 1) = (setsE E1 64 X i).set j (X / 256 ^ i % 256) by rw [setsE, hj])
        have HF := hid (hf.trans (Far.set (H := G2) (j := j) (w := wr) (.int .u8 ((X / 256 ^ i % 256 : Nat) : Int))))
        have dg := dig8 X i
        have i8 : (0 : Int) ≤ 8 * (i : Int) := by omega
        have hwn : IntKind.u64.wrap ((all.length : Int) * 8) = (X : Int) := by rw [eX]; clear eX HX dg; simp [IntKind.wrap, IntKind.signed, IntKind.bits]; omega
        generalize (setsE E1 64 X i).getD j 0 = oldj at *
        clear hj how hf hlS
        generalize hV : X / 256 ^ i % 256 = V at *
        clear hV
        go_wp2
        go_roundw
        case rel => exact ⟨i + 1, by omega, by go_num, by rw [HN.out]; exact OW.out.1, HF.out⟩
        case measure => simp [intOf]; omega
      · have hge : 8 ≤ i := by omega
        have hE : setsE E1 64 X i = endE D all.length := by
          rw [show i = 8 by omega, endE, hDl'.out, hszo.out, HE1.out, HX.out, Nat.mod_eq_of_lt (by have := HX.out; omega)]
        rw [hE] at how
        have HO := hid how
        have HF := hid hf
        have PL := hid (show (all ++ padN all.length).length / 64 = all.length / 64 + 1 by rw [P3'.out, hszo.out]; omega)
        have PD := hid (show (all ++ padN all.length).drop (64 * (all.length / 64)) = (endE D all.length).take 64 by rw [P1'.out, hszo.out])
        have hG1lt : G1 < W3.heap.size := (Array.getElem?_eq_some_iff.1 HG1.out).1
        have hh1 := hid (show wr.heap[G1]? = some (.cells #[.int .u32 (z0 : Int), .int .u32 (z1 : Int), .int .u32 (z2 : Int), .int .u32 (z3 : Int), .int .u32 (z4 : Int), .int .u32 (z5 : Int), .int .u32 (z6 : Int), .int .u32 (z7 : Int)] 123 (0, 0)) by rw [hf.block G1 hG1lt (by simp; omega)]; exact HG1.out)
        have S0 := hid (show [z0, z1, z2, z3, z4, z5, z6, z7] = runB K0 H0 (all ++ padN all.length) (all.length / 64 + 0) by rw [← HS.out]; exact P2'.out)
        have HSHA := hid (show sha all = (runB K0 H0 (all ++ padN all.length) (all.length / 64 + 1)).flatMap bytes4 by rw [sha, hashS, PL.out])
        clear hE how hf eX own5 F5
        generalize endE D all.length = E at *
        generalize all ++ padN all.length = P at *
        generalize all.length / 64 = q at *
        go_wp2
        generalize wr = W6 at *
        go_loopw [7] (fun x7 wr => ∃ (p j : Nat) (cu : Array Value), Hid (p = 64 * j) ∧ j ≤ 1 ∧ x7 = .int .i64 p ∧ wr.heap[G1]? = some (.cells cu 123 (0, 0)) ∧ cu.size = 8 ∧ (∀ i, i < 8 → cu[0 + i]? = some (.int .u32 (((runB K0 H0 P (q + j)).getD i 0 : Nat) : Int))) ∧ Far G1 W6 wr) (fun x7 _ => 64 - (intOf x7).toNat)
        case atStart =>
          refine ⟨0, 0, _, hid rfl, by omega, rfl, hh1.out, rfl, fun i hi => ?_, Far.refl _ _⟩
          rw [← S0.out]
          have hc : i = 0 ∨ i = 1 ∨ i = 2 ∨ i = 3 ∨ i = 4 ∨ i = 5 ∨ i = 6 ∨ i = 7 := by omega
          rcases hc with rfl | rfl | rfl | rfl | rfl | rfl | rfl | rfl <;> rfl
        case round =>
          obtain ⟨p, j, cu, hpj, hj, rfl, hh, hcs, hcu, hf⟩ := hrel
          clear hh1 S0
          by_cases hlt2 : p < 64
          · have hB64 := hid (show Sl .u8 wr (some ⟨G2, p, none⟩) 64 (128 - p) ((E.drop p).take 64) from sl_sub (Far.own HO.out hf (by simp [Value.ownBlock]; omega)) (by have := hpj.out; omega) (by have := hpj.out; omega) (by unfold maxLen; omega))
            have hX64 := hid (show ∀ d ∈ (E.drop p).take 64, d < 256 from fun d hd => EL.out d (List.mem_of_mem_drop (List.mem_of_mem_take hd)))
            have hblk := hid (end_block PD.out hpj.out (show p + 64 ≤ 64 by have := hpj.out; omega))
            have hS32 := hid (show ∀ d ∈ runB K0 H0 P (q + j), d < 4294967296 from runB_lt H0_lt _)
            have hS8 := hid (show (runB K0 H0 P (q + j)).length = 8 from runB_len rfl _)
            have HTr := hid (((HT.out.below B3.out).far HF.out (by have := HG2.out; intro h; subst h; have := (Array.getElem?_eq_some_iff.1 HG2.out).1; have := World.block_lt_of_cell? w _ (HT.out.1 0 (by decide)); simp at this; omega) (by intro h; subst h; have := World.block_lt_of_cell? w _ (HT.out.2 0 (by decide)); simp at this; omega)).far hf (by intro h; subst h; have := World.block_lt_of_cell? w _ (HT.out.1 0 (by decide)); simp at this; omega) (by intro h; subst h; have := World.block_lt_of_cell? w _ (HT.out.2 0 (by decide)); simp at this; omega))
            have hh' := hid hh
            have hcu' := hid hcu
            have hf' := hid hf
            have hjn := hid (show j + 1 ≤ 1 by have := hpj.out; omega)
            obtain ⟨p64, hp64⟩ : ∃ p64 : Nat, p64 = p + 64 := ⟨_, rfl⟩
            have e64 : (p : Int) + 64 = (p64 : Int) := by omega
            have n128 : ¬ 128 = p := by omega
            have i64a : (0 : Int) ≤ (p : Int) := by omega
            have i64b : (p : Int) ≤ (p64 : Int) := by omega
            have i64c : (p64 : Int) ≤ 128 := by have := hpj.out; omega
            have hsub : p64 - p = 64 := by omega
            have hpj2 := hid (show p64 = 64 * (j + 1) by have := hpj.out; omega)
            clear hh hcu hf hp64
            go_wp2_with fail
            refine (mix_walk G1 0 _ cu (runB K0 H0 P (q + j)) G2 p (128 - p) _ _ hh'.out hcu'.out hS32.out hS8.out hB64.out hX64.out HTr.out).mono ?_
            rintro e wA ⟨rfl, fA, hA2⟩
            rw [← hblk.out] at hA2
            have HA2 := hid (show wA.heap[G1]? = some (.cells (putN cu 0 (runB K0 H0 P (q + (j + 1))) 8) 123 (0, 0)) from hA2)
            have HFA := hid (hf'.out.trans fA)
            have HCU := hid (fun i (hi : i < 8) => putN_in cu 0 (runB K0 H0 P (q + (j + 1))) 8 i hi (by omega))
            have HSZ := hid (show (putN cu 0 (runB K0 H0 P (q + (j + 1))) 8).size = 8 by rw [putN_size]; exact hcs)
            clear hA2 fA hB64 hX64 hblk hS32 hS8 HTr hh' hcu' hf'
            generalize putN cu 0 (runB K0 H0 P (q + (j + 1))) 8 = cu2 at *
            go_wp2
            go_roundw
            case rel => exact ⟨p64, j + 1, cu2, hpj2, hjn.out, rfl, HA2.out, HSZ.out, HCU.out, HFA.out⟩
            case measure => simp [intOf]; omega
          · have hge2 : 64 ≤ p := by omega
            have hjN : j = 1 := by have := hpj.out; omega
            rw [hjN] at hcu
            have L8 := runB_len (K := K0) (S := H0) (bs := P) rfl (q + 1)
            have L32 := hid (show ∀ d ∈ runB K0 H0 P (q + 1), d < 4294967296 from runB_lt H0_lt _)
            generalize runB K0 H0 P (q + 1) = L at *
            have hce := fun i (hi : i < 8) => (cell_of_row wr G1 (0 + i) cu _ (0, 0) hh).trans (hcu i hi)
            have u0 := hce 0 (by omega)
            have u1 := hce 1 (by omega)
            have u2 := hce 2 (by omega)
            have u3 := hce 3 (by omega)
            have u4 := hce 4 (by omega)
            have u5 := hce 5 (by omega)
            have u6 := hce 6 (by omega)
            have u7 := hce 7 (by omega)
            simp only [Nat.zero_add] at u0 u1 u2 u3 u4 u5 u6 u7
            have HL := hid (list8_of L8 (show stOf L = ⟨L.getD 0 0, L.getD 1 0, L.getD 2 0, L.getD 3 0, L.getD 4 0, L.getD 5 0, L.getD 6 0, L.getD 7 0⟩ from rfl))
            have bd := getDlt L32.out (by omega)
            have bd0 := bd 0
            have bd1 := bd 1
            have bd2 := bd 2
            have bd3 := bd 3
            have bd4 := bd 4
            have bd5 := bd 5
            have bd6 := bd 6
            have bd7 := bd 7
            generalize L.getD 0 0 = y0 at *
            generalize L.getD 1 0 = y1 at *
            generalize L.getD 2 0 = y2 at *
            generalize L.getD 3 0 = y3 at *
            generalize L.getD 4 0 = y4 at *
            generalize L.getD 5 0 = y5 at *
            generalize L.getD 6 0 = y6 at *
            generalize L.getD 7 0 = y7 at *
            have hG1lt : G1 < wr.heap.size := (Array.getElem?_eq_some_iff.1 hh).1
            have hG1ne : ¬ G1 = wr.heap.size := by omega
            have HFw := hid hf
            have O0 := hid (own_new wr (List.replicate 32 (Value.int .u8 0)).toArray 62 (size := 1) (n := 32) (B := wr.heap.size) (by simp) (Nat.le_refl _) (by decide))
            have FA0 := hid (Far.of (H := wr.heap.size) ((Below.refl wr.heap.size wr).alloc (Nat.le_refl _) (.cells (List.replicate 32 (Value.int .u8 0)).toArray 62)))
            have ix0 : ∀ w, (Instr.index 123 (.agg #[.int .u32 (y0 : Int), .int .u32 (y1 : Int), .int .u32 (y2 : Int), .int .u32 (y3 : Int), .int .u32 (y4 : Int), .int .u32 (y5 : Int), .int .u32 (y6 : Int), .int .u32 (y7 : Int)]) (.int .i64 0)).run Tryz.prog w = .ok (.int .u32 (y0 : Int)) w := fun _ => by kernel_rfl
            have ix1 : ∀ w, (Instr.index 123 (.agg #[.int .u32 (y0 : Int), .int .u32 (y1 : Int), .int .u32 (y2 : Int), .int .u32 (y3 : Int), .int .u32 (y4 : Int), .int .u32 (y5 : Int), .int .u32 (y6 : Int), .int .u32 (y7 : Int)]) (.int .i64 1)).run Tryz.prog w = .ok (.int .u32 (y1 : Int)) w := fun _ => by kernel_rfl
            have ix2 : ∀ w, (Instr.index 123 (.agg #[.int .u32 (y0 : Int), .int .u32 (y1 : Int), .int .u32 (y2 : Int), .int .u32 (y3 : Int), .int .u32 (y4 : Int), .int .u32 (y5 : Int), .int .u32 (y6 : Int), .int .u32 (y7 : Int)]) (.int .i64 2)).run Tryz.prog w = .ok (.int .u32 (y2 : Int)) w := fun _ => by kernel_rfl
            have ix3 : ∀ w, (Instr.index 123 (.agg #[.int .u32 (y0 : Int), .int .u32 (y1 : Int), .int .u32 (y2 : Int), .int .u32 (y3 : Int), .int .u32 (y4 : Int), .int .u32 (y5 : Int), .int .u32 (y6 : Int), .int .u32 (y7 : Int)]) (.int .i64 3)).run Tryz.prog w = .ok (.int .u32 (y3 : Int)) w := fun _ => by kernel_rfl
            have ix4 : ∀ w, (Instr.index 123 (.agg #[.int .u32 (y0 : Int), .int .u32 (y1 : Int), .int .u32 (y2 : Int), .int .u32 (y3 : Int), .int .u32 (y4 : Int), .int .u32 (y5 : Int), .int .u32 (y6 : Int), .int .u32 (y7 : Int)]) (.int .i64 4)).run Tryz.prog w = .ok (.int .u32 (y4 : Int)) w := fun _ => by kernel_rfl
            have ix5 : ∀ w, (Instr.index 123 (.agg #[.int .u32 (y0 : Int), .int .u32 (y1 : Int), .int .u32 (y2 : Int), .int .u32 (y3 : Int), .int .u32 (y4 : Int), .int .u32 (y5 : Int), .int .u32 (y6 : Int), .int .u32 (y7 : Int)]) (.int .i64 5)).run Tryz.prog w = .ok (.int .u32 (y5 : Int)) w := fun _ => by kernel_rfl
            have ix6 : ∀ w, (Instr.index 123 (.agg #[.int .u32 (y0 : Int), .int .u32 (y1 : Int), .int .u32 (y2 : Int), .int .u32 (y3 : Int), .int .u32 (y4 : Int), .int .u32 (y5 : Int), .int .u32 (y6 : Int), .int .u32 (y7 : Int)]) (.int .i64 6)).run Tryz.prog w = .ok (.int .u32 (y6 : Int)) w := fun _ => by kernel_rfl
            have ix7 : ∀ w, (Instr.index 123 (.agg #[.int .u32 (y0 : Int), .int .u32 (y1 : Int), .int .u32 (y2 : Int), .int .u32 (y3 : Int), .int .u32 (y4 : Int), .int .u32 (y5 : Int), .int .u32 (y6 : Int), .int .u32 (y7 : Int)]) (.int .i64 7)).run Tryz.prog w = .ok (.int .u32 (y7 : Int)) w := fun _ => by kernel_rfl
            have e0 := hid (show L.getD 0 0 = y0 by rw [HL.out]; rfl)
            have e1 := hid (show L.getD 1 0 = y1 by rw [HL.out]; rfl)
            have e2 := hid (show L.getD 2 0 = y2 by rw [HL.out]; rfl)
            have e3 := hid (show L.getD 3 0 = y3 by rw [HL.out]; rfl)
            have e4 := hid (show L.getD 4 0 = y4 by rw [HL.out]; rfl)
            have e5 := hid (show L.getD 5 0 = y5 by rw [HL.out]; rfl)
            have e6 := hid (show L.getD 6 0 = y6 by rw [HL.out]; rfl)
            have e7 := hid (show L.getD 7 0 = y7 by rw [HL.out]; rfl)
            have hG0 := hid (show wr.heap[w.heap.size]? = some (.cells (List.replicate 32 (Value.int .u8 0)).toArray 62 (0, 0)) by
              rw [hf.block _ (by have := HF.out.size; omega) (by simp; omega), HF.out.block _ (by omega) (by simp; omega)]; exact HG0.out)
            have BEL := hid (B3.out.trans ((HF.out.below (show w.heap.size ≤ G2 by omega) (by omega)).trans (hf.below (show w.heap.size ≤ G1 by omega) (by have := HF.out.size; omega))))
            have hwsz : w.heap.size < wr.heap.size := by have := HF.out.size; have := hf.size; omega
            clear hh hcu hce bd L8 hf hjN
            go_wp2
            clear u0 u1 u2 u3 u4 u5 u6 u7
            generalize wr = W7 at *
            go_loopw [67] (fun x0 wv => ∃ i : Nat, i ≤ 8 ∧ x0 = .int .i64 i ∧ wv.ownsRow W7.heap.size 62 1 (.slice (some ⟨W7.heap.size, 0, none⟩) 32 32) 32 (nums .u8 (outL L i)) ∧ Far W7.heap.size W7 wv) (fun x0 _ => 8 - (intOf x0).toNat)
            case atStart => exact ⟨0, by omega, rfl, by rw [outL, nums_replicate]; exact O0.out, FA0.out⟩
            case round =>
              obtain ⟨i, hi, rfl, how, hf⟩ := hrel
              clear O0 FA0
              by_cases hlt3 : i < 8
              · have hlO := outL_len L i
                have c0 := how.cellAt (4 * i) (by omega)
                have c1 := how.cellAt (4 * i + 1) (by omega)
                have c2 := how.cellAt (4 * i + 2) (by omega)
                have c3 := how.cellAt (4 * i + 3) (by omega)
                rw [nums_get .u8 (by omega)] at c0 c1 c2 c3
                have f0 := how.frozenAt (4 * i)
                have f1 := how.frozenAt (4 * i + 1)
                have f2 := how.frozenAt (4 * i + 2)
                have f3 := how.frozenAt (4 * i + 3)
                have o1 := (own_store how (4 * i) (z := ((L.getD i 0 / 16777216 % 256 : Nat) : Int)) rfl).1
                have o2 := (own_store o1 (4 * i + 1) (z := ((L.getD i 0 / 65536 % 256 : Nat) : Int)) rfl).1
                have o3 := (own_store o2 (4 * i + 2) (z := ((L.getD i 0 / 256 % 256 : Nat) : Int)) rfl).1
                have o4 := (own_store o3 (4 * i + 3) (z := ((L.getD i 0 % 256 : Nat) : Int)) rfl).1
                have g4 := (((hf.trans (Far.set (H := W7.heap.size) (j := 4 * i) (.int .u8 ((L.getD i 0 / 16777216 % 256 : Nat) : Int)))).trans (Far.set (H := W7.heap.size) (j := 4 * i + 1) (.int .u8 ((L.getD i 0 / 65536 % 256 : Nat) : Int)))).trans
                  (Far.set (H := W7.heap.size) (j := 4 * i + 2) (.int .u8 ((L.getD i 0 / 256 % 256 : Nat) : Int)))).trans (Far.set (H := W7.heap.size) (j := 4 * i + 3) (.int .u8 ((L.getD i 0 % 256 : Nat) : Int)))
                have OW := hid (And.intro (show World.ownsRow _ W7.heap.size 62 1 (.slice (some ⟨W7.heap.size, 0, none⟩) 32 32) 32 (nums .u8 (outL L (i + 1))) from o4) g4)
                generalize (outL L i).getD (4 * i) 0 = v0 at *
                generalize (outL L i).getD (4 * i + 1) 0 = v1 at *
                generalize (outL L i).getD (4 * i + 2) 0 = v2 at *
                generalize (outL L i).getD (4 * i + 3) 0 = v3 at *
                clear o1 o2 o3 o4 g4 how hf hlO
                have hcase : i = 0 ∨ i = 1 ∨ i = 2 ∨ i = 3 ∨ i = 4 ∨ i = 5 ∨ i = 6 ∨ i = 7 := by omega
                rcases hcase with rfl | rfl | rfl | rfl | rfl | rfl | rfl | rfl
                · simp only [Nat.mul_zero, Nat.zero_add] at c0 c1 c2 c3 f0 f1 f2 f3 OW
                  rw [e0.out] at OW
                  go_wp2
                  rw [by24 bd0, by16, by8, by0]
                  exact ⟨⟨1, by decide, rfl, OW.out.1, OW.out.2⟩, by simp [intOf]⟩
                · simp only [Nat.reduceMul, Nat.reduceAdd] at c0 c1 c2 c3 f0 f1 f2 f3 OW
                  rw [e1.out] at OW
                  go_wp2
                  rw [by24 bd1, by16, by8, by0]
                  exact ⟨⟨2, by decide, rfl, OW.out.1, OW.out.2⟩, by simp [intOf]⟩
                · simp only [Nat.reduceMul, Nat.reduceAdd] at c0 c1 c2 c3 f0 f1 f2 f3 OW
                  rw [e2.out] at OW
                  go_wp2
                  rw [by24 bd2, by16, by8, by0]
                  exact ⟨⟨3, by decide, rfl, OW.out.1, OW.out.2⟩, by simp [intOf]⟩
                · simp only [Nat.reduceMul, Nat.reduceAdd] at c0 c1 c2 c3 f0 f1 f2 f3 OW
                  rw [e3.out] at OW
                  go_wp2
                  rw [by24 bd3, by16, by8, by0]
                  exact ⟨⟨4, by decide, rfl, OW.out.1, OW.out.2⟩, by simp [intOf]⟩
                · simp only [Nat.reduceMul, Nat.reduceAdd] at c0 c1 c2 c3 f0 f1 f2 f3 OW
                  rw [e4.out] at OW
                  go_wp2
                  rw [by24 bd4, by16, by8, by0]
                  exact ⟨⟨5, by decide, rfl, OW.out.1, OW.out.2⟩, by simp [intOf]⟩
                · simp only [Nat.reduceMul, Nat.reduceAdd] at c0 c1 c2 c3 f0 f1 f2 f3 OW
                  rw [e5.out] at OW
                  go_wp2
                  rw [by24 bd5, by16, by8, by0]
                  exact ⟨⟨6, by decide, rfl, OW.out.1, OW.out.2⟩, by simp [intOf]⟩
                · simp only [Nat.reduceMul, Nat.reduceAdd] at c0 c1 c2 c3 f0 f1 f2 f3 OW
                  rw [e6.out] at OW
                  go_wp2
                  rw [by24 bd6, by16, by8, by0]
                  exact ⟨⟨7, by decide, rfl, OW.out.1, OW.out.2⟩, by simp [intOf]⟩
                · simp only [Nat.reduceMul, Nat.reduceAdd] at c0 c1 c2 c3 f0 f1 f2 f3 OW
                  rw [e7.out] at OW
                  go_wp2
                  rw [by24 bd7, by16, by8, by0]
                  exact ⟨⟨8, by decide, rfl, OW.out.1, OW.out.2⟩, by simp [intOf]⟩
              · have hge3 : 8 ≤ i := by omega
                rw [show i = 8 by omega, HL.out, outL_eq, ← HL.out, ← HSHA.out] at how
                have HFv := hid hf
                rcases how.2 with ⟨hbad, _⟩ | ⟨g, cap, cu3, hv3, _, hg3, _, _, hsz3', htk⟩
                · simp at hbad
                · simp only [Value.slice.injEq, Option.some.injEq, Addr.mk.injEq, and_true, true_and] at hv3
                  obtain ⟨rfl, rfl⟩ := hv3
                  have hcl : cu3.toList = nums .u8 (sha all) := by
                    rw [← htk, List.take_of_length_le (by rw [Array.length_toList, hsz3']; exact Nat.le_refl _)]
                  have hcu3 : cu3 = (nums .u8 (sha all)).toArray := by rw [← hcl]
                  have hg0' := hid (show wr.heap[w.heap.size]? = some (.cells (List.replicate 32 (Value.int .u8 0)).toArray 62 (0, 0)) by rw [hf.block _ hwsz (by simp; omega)]; exact hG0.out)
                  have hg3' := hid hg3
                  have hi3 : (Tryz.prog.info? 62).map (·.size) = some cu3.size := by rw [hsz3']; exact infoH
                  have h1c : cu3.all (·.oneCell') = true := by
                    rw [hcu3]
                    simp [nums, Value.oneCell']
                  have h32 : ((List.replicate 32 (Value.int .u8 0)).toArray).size = cu3.size := by rw [hsz3']; rfl
                  have HCU3 := hid hcu3
                  have BF := hid (BEL.out.trans (hf.below (show w.heap.size ≤ W7.heap.size by omega) (by omega)))
                  clear how hf hg3 htk hcl hcu3 hsz3'
                  go_wp2_with (first | (refine wpList_load_row rfl _ _ rfl W7.heap.size rfl _ cu3 _ _ hg3'.out Tryz.underlying62 rfl hi3 ?_) | (refine wpList_store_row rfl _ _ _ rfl w.heap.size cu3 rfl rfl _ _ hg0'.out hi3 h32 h1c ?_))
                  (try simp only [Exit.inBlock, Exit.then])
                  refine bodyPost_ret (results_cell_row rfl _ _ w.heap.size _ cu3 _ _ rfl (setRow_heap wr w.heap.size _ cu3 _ _ hg0'.out) Tryz.underlying62 rfl hi3) rfl ?_
                  exact ⟨by rw [HCU3.out]; rfl, below_setRow BF.out (Nat.le_refl _) _⟩
  · have tks : decide ((k : Int) ≥ 56) = true := by rw [decide_eq_true_eq]; omega
    have tks2 : decide (k ≥ 56) = true := by rw [decide_eq_true_eq]; omega
    have hszo := hid (show szOf k = 128 from if_neg hks)
    go_wp2
    generalize hW5 : w4.setCell ⟨G2, k, none⟩ (.int .u8 128) = W5 at *
    obtain ⟨X, hX⟩ : ∃ X : Nat, X = all.length * 8 := ⟨_, rfl⟩
    have eX : (all.length : Int) * 8 = (X : Int) := by omega
    have hXb : X < 18446744073709551616 := by omega
    obtain ⟨E1, hE1⟩ : ∃ E1, E1 = D ++ 128 :: List.replicate (127 - k) 0 := ⟨_, rfl⟩
    rw [← hE1] at own5
    have HE1 := hid hE1
    have HX := hid hX
    have hE1l := hid (show E1.length = 128 by rw [hE1]; simp [hDl'.out]; omega)
    clear hE1 hX c4 fzz4 ck4 hW5 cz4
    go_loopw [38] (fun x0 wr => ∃ i : Nat, i ≤ 8 ∧ x0 = .int .i64 i ∧ wr.ownsRow w.heap.size 157 1 (.slice (some ⟨G2, 0, none⟩) 128 128) 128 (nums .u8 (setsE E1 128 X i)) ∧ Far G2 W3 wr) (fun x0 _ => 8 - (intOf x0).toNat)
    case atStart => exact ⟨0, by omega, rfl, own5.out.1, F5.out⟩
    case round =>
      obtain ⟨i, hi, rfl, how, hf⟩ := hrel
      by_cases hlt : i < 8
      · obtain ⟨j, hj⟩ : ∃ j : Nat, j = 128 - 1 - i := ⟨_, rfl⟩
        have ej : (127 : Int) - (i : Int) = (j : Int) := by omega
        have hj128 : j < 128 := by omega
        have hjI : (j : Int) < 128 := by omega
        have cn : wr.cell? ⟨H, ho + 73, none⟩ = some (.int .u64 (all.length : Int)) := by
          rw [World.cell?_of_block (hf.block H (Nat.lt_of_lt_of_le hHlt B3.out.size) (by simp; omega)), B3.out.cell (p := ⟨H, ho + 73, none⟩) hHlt, cell_of_row w H _ cur T (0, 0) HH.out]; exact HA.out.n
        have hlS : (setsE E1 128 X i).length = 128 := by rw [setsE_len]; exact hE1l.out
        have cj := how.cellAt j (by omega)
        rw [nums_get .u8 (by omega)] at cj
        have fj := how.frozenAt j
        have OW := hid (own_store how j (z := ((X / 256 ^ i % 256 : Nat) : Int)) rfl)
        have HN := hid (show setsE E1 128 X (i + 1) = (setsE E1 128 X i).set j (X / 256 ^ i % 256) by rw [setsE, hj])
        have HF := hid (hf.trans (Far.set (H := G2) (j := j) (w := wr) (.int .u8 ((X / 256 ^ i % 256 : Nat) : Int))))
        have dg := dig8 X i
        have i8 : (0 : Int) ≤ 8 * (i : Int) := by omega
        have hwn : IntKind.u64.wrap ((all.length : Int) * 8) = (X : Int) := by rw [eX]; clear eX HX dg; simp [IntKind.wrap, IntKind.signed, IntKind.bits]; omega
        generalize (setsE E1 128 X i).getD j 0 = oldj at *
        clear hj how hf hlS
        generalize hV : X / 256 ^ i % 256 = V at *
        clear hV
        go_wp2
        go_roundw
        case rel => exact ⟨i + 1, by omega, by go_num, by rw [HN.out]; exact OW.out.1, HF.out⟩
        case measure => simp [intOf]; omega
      · have hge : 8 ≤ i := by omega
        have hE : setsE E1 128 X i = endE D all.length := by
          rw [show i = 8 by omega, endE, hDl'.out, hszo.out, HE1.out, HX.out, Nat.mod_eq_of_lt (by have := HX.out; omega)]
        rw [hE] at how
        have HO := hid how
        have HF := hid hf
        have PL := hid (show (all ++ padN all.length).length / 64 = all.length / 64 + 2 by rw [P3'.out, hszo.out]; omega)
        have PD := hid (show (all ++ padN all.length).drop (64 * (all.length / 64)) = (endE D all.length).take 128 by rw [P1'.out, hszo.out])
        have hG1lt : G1 < W3.heap.size := (Array.getElem?_eq_some_iff.1 HG1.out).1
        have hh1 := hid (show wr.heap[G1]? = some (.cells #[.int .u32 (z0 : Int), .int .u32 (z1 : Int), .int .u32 (z2 : Int), .int .u32 (z3 : Int), .int .u32 (z4 : Int), .int .u32 (z5 : Int), .int .u32 (z6 : Int), .int .u32 (z7 : Int)] 123 (0, 0)) by rw [hf.block G1 hG1lt (by simp; omega)]; exact HG1.out)
        have S0 := hid (show [z0, z1, z2, z3, z4, z5, z6, z7] = runB K0 H0 (all ++ padN all.length) (all.length / 64 + 0) by rw [← HS.out]; exact P2'.out)
        have HSHA := hid (show sha all = (runB K0 H0 (all ++ padN all.length) (all.length / 64 + 2)).flatMap bytes4 by rw [sha, hashS, PL.out])
        clear hE how hf eX own5 F5
        generalize endE D all.length = E at *
        generalize all ++ padN all.length = P at *
        generalize all.length / 64 = q at *
        go_wp2
        generalize wr = W6 at *
        go_loopw [7] (fun x7 wr => ∃ (p j : Nat) (cu : Array Value), Hid (p = 64 * j) ∧ j ≤ 2 ∧ x7 = .int .i64 p ∧ wr.heap[G1]? = some (.cells cu 123 (0, 0)) ∧ cu.size = 8 ∧ (∀ i, i < 8 → cu[0 + i]? = some (.int .u32 (((runB K0 H0 P (q + j)).getD i 0 : Nat) : Int))) ∧ Far G1 W6 wr) (fun x7 _ => 128 - (intOf x7).toNat)
        case atStart =>
          refine ⟨0, 0, _, hid rfl, by omega, rfl, hh1.out, rfl, fun i hi => ?_, Far.refl _ _⟩
          rw [← S0.out]
          have hc : i = 0 ∨ i = 1 ∨ i = 2 ∨ i = 3 ∨ i = 4 ∨ i = 5 ∨ i = 6 ∨ i = 7 := by omega
          rcases hc with rfl | rfl | rfl | rfl | rfl | rfl | rfl | rfl <;> rfl
        case round =>
          obtain ⟨p, j, cu, hpj, hj, rfl, hh, hcs, hcu, hf⟩ := hrel
          clear hh1 S0
          by_cases hlt2 : p < 128
          · have hB64 := hid (show Sl .u8 wr (some ⟨G2, p, none⟩) 64 (128 - p) ((E.drop p).take 64) from sl_sub (Far.own HO.out hf (by simp [Value.ownBlock]; omega)) (by have := hpj.out; omega) (by have := hpj.out; omega) (by unfold maxLen; omega))
            have hX64 := hid (show ∀ d ∈ (E.drop p).take 64, d < 256 from fun d hd => EL.out d (List.mem_of_mem_drop (List.mem_of_mem_take hd)))
            have hblk := hid (end_block PD.out hpj.out (show p + 64 ≤ 128 by have := hpj.out; omega))
            have hS32 := hid (show ∀ d ∈ runB K0 H0 P (q + j), d < 4294967296 from runB_lt H0_lt _)
            have hS8 := hid (show (runB K0 H0 P (q + j)).length = 8 from runB_len rfl _)
            have HTr := hid (((HT.out.below B3.out).far HF.out (by have := HG2.out; intro h; subst h; have := (Array.getElem?_eq_some_iff.1 HG2.out).1; have := World.block_lt_of_cell? w _ (HT.out.1 0 (by decide)); simp at this; omega) (by intro h; subst h; have := World.block_lt_of_cell? w _ (HT.out.2 0 (by decide)); simp at this; omega)).far hf (by intro h; subst h; have := World.block_lt_of_cell? w _ (HT.out.1 0 (by decide)); simp at this; omega) (by intro h; subst h; have := World.block_lt_of_cell? w _ (HT.out.2 0 (by decide)); simp at this; omega))
            have hh' := hid hh
            have hcu' := hid hcu
            have hf' := hid hf
            have hjn := hid (show j + 1 ≤ 2 by have := hpj.out; omega)
            obtain ⟨p64, hp64⟩ : ∃ p64 : Nat, p64 = p + 64 := ⟨_, rfl⟩
            have e64 : (p : Int) + 64 = (p64 : Int) := by omega
            have n128 : ¬ 128 = p := by omega
            have i64a : (0 : Int) ≤ (p : Int) := by omega
            have i64b : (p : Int) ≤ (p64 : Int) := by omega
            have i64c : (p64 : Int) ≤ 128 := by have := hpj.out; omega
            have hsub : p64 - p = 64 := by omega
            have hpj2 := hid (show p64 = 64 * (j + 1) by have := hpj.out; omega)
            clear hh hcu hf hp64
            go_wp2_with fail
            refine (mix_walk G1 0 _ cu (runB K0 H0 P (q + j)) G2 p (128 - p) _ _ hh'.out hcu'.out hS32.out hS8.out hB64.out hX64.out HTr.out).mono ?_
            rintro e wA ⟨rfl, fA, hA2⟩
            rw [← hblk.out] at hA2
            have HA2 := hid (show wA.heap[G1]? = some (.cells (putN cu 0 (runB K0 H0 P (q + (j + 1))) 8) 123 (0, 0)) from hA2)
            have HFA := hid (hf'.out.trans fA)
            have HCU := hid (fun i (hi : i < 8) => putN_in cu 0 (runB K0 H0 P (q + (j + 1))) 8 i hi (by omega))
            have HSZ := hid (show (putN cu 0 (runB K0 H0 P (q + (j + 1))) 8).size = 8 by rw [putN_size]; exact hcs)
            clear hA2 fA hB64 hX64 hblk hS32 hS8 HTr hh' hcu' hf'
            generalize putN cu 0 (runB K0 H0 P (q + (j + 1))) 8 = cu2 at *
            go_wp2
            go_roundw
            case rel => exact ⟨p64, j + 1, cu2, hpj2, hjn.out, rfl, HA2.out, HSZ.out, HCU.out, HFA.out⟩
            case measure => simp [intOf]; omega
          · have hge2 : 128 ≤ p := by omega
            have hjN : j = 2 := by have := hpj.out; omega
            rw [hjN] at hcu
            have L8 := runB_len (K := K0) (S := H0) (bs := P) rfl (q + 2)
            have L32 := hid (show ∀ d ∈ runB K0 H0 P (q + 2), d < 4294967296 from runB_lt H0_lt _)
            generalize runB K0 H0 P (q + 2) = L at *
            have hce := fun i (hi : i < 8) => (cell_of_row wr G1 (0 + i) cu _ (0, 0) hh).trans (hcu i hi)
            have u0 := hce 0 (by omega)
            have u1 := hce 1 (by omega)
            have u2 := hce 2 (by omega)
            have u3 := hce 3 (by omega)
            have u4 := hce 4 (by omega)
            have u5 := hce 5 (by omega)
            have u6 := hce 6 (by omega)
            have u7 := hce 7 (by omega)
            simp only [Nat.zero_add] at u0 u1 u2 u3 u4 u5 u6 u7
            have HL := hid (list8_of L8 (show stOf L = ⟨L.getD 0 0, L.getD 1 0, L.getD 2 0, L.getD 3 0, L.getD 4 0, L.getD 5 0, L.getD 6 0, L.getD 7 0⟩ from rfl))
            have bd := getDlt L32.out (by omega)
            have bd0 := bd 0
            have bd1 := bd 1
            have bd2 := bd 2
            have bd3 := bd 3
            have bd4 := bd 4
            have bd5 := bd 5
            have bd6 := bd 6
            have bd7 := bd 7
            generalize L.getD 0 0 = y0 at *
            generalize L.getD 1 0 = y1 at *
            generalize L.getD 2 0 = y2 at *
            generalize L.getD 3 0 = y3 at *
            generalize L.getD 4 0 = y4 at *
            generalize L.getD 5 0 = y5 at *
            generalize L.getD 6 0 = y6 at *
            generalize L.getD 7 0 = y7 at *
            have hG1lt : G1 < wr.heap.size := (Array.getElem?_eq_some_iff.1 hh).1
            have hG1ne : ¬ G1 = wr.heap.size := by omega
            have HFw := hid hf
            have O0 := hid (own_new wr (List.replicate 32 (Value.int .u8 0)).toArray 62 (size := 1) (n := 32) (B := wr.heap.size) (by simp) (Nat.le_refl _) (by decide))
            have FA0 := hid (Far.of (H := wr.heap.size) ((Below.refl wr.heap.size wr).alloc (Nat.le_refl _) (.cells (List.replicate 32 (Value.int .u8 0)).toArray 62)))
            have ix0 : ∀ w, (Instr.index 123 (.agg #[.int .u32 (y0 : Int), .int .u32 (y1 : Int), .int .u32 (y2 : Int), .int .u32 (y3 : Int), .int .u32 (y4 : Int), .int .u32 (y5 : Int), .int .u32 (y6 : Int), .int .u32 (y7 : Int)]) (.int .i64 0)).run Tryz.prog w = .ok (.int .u32 (y0 : Int)) w := fun _ => by kernel_rfl
            have ix1 : ∀ w, (Instr.index 123 (.agg #[.int .u32 (y0 : Int), .int .u32 (y1 : Int), .int .u32 (y2 : Int), .int .u32 (y3 : Int), .int .u32 (y4 : Int), .int .u32 (y5 : Int), .int .u32 (y6 : Int), .int .u32 (y7 : Int)]) (.int .i64 1)).run Tryz.prog w = .ok (.int .u32 (y1 : Int)) w := fun _ => by kernel_rfl
            have ix2 : ∀ w, (Instr.index 123 (.agg #[.int .u32 (y0 : Int), .int .u32 (y1 : Int), .int .u32 (y2 : Int), .int .u32 (y3 : Int), .int .u32 (y4 : Int), .int .u32 (y5 : Int), .int .u32 (y6 : Int), .int .u32 (y7 : Int)]) (.int .i64 2)).run Tryz.prog w = .ok (.int .u32 (y2 : Int)) w := fun _ => by kernel_rfl
            have ix3 : ∀ w, (Instr.index 123 (.agg #[.int .u32 (y0 : Int), .int .u32 (y1 : Int), .int .u32 (y2 : Int), .int .u32 (y3 : Int), .int .u32 (y4 : Int), .int .u32 (y5 : Int), .int .u32 (y6 : Int), .int .u32 (y7 : Int)]) (.int .i64 3)).run Tryz.prog w = .ok (.int .u32 (y3 : Int)) w := fun _ => by kernel_rfl
            have ix4 : ∀ w, (Instr.index 123 (.agg #[.int .u32 (y0 : Int), .int .u32 (y1 : Int), .int .u32 (y2 : Int), .int .u32 (y3 : Int), .int .u32 (y4 : Int), .int .u32 (y5 : Int), .int .u32 (y6 : Int), .int .u32 (y7 : Int)]) (.int .i64 4)).run Tryz.prog w = .ok (.int .u32 (y4 : Int)) w := fun _ => by kernel_rfl
            have ix5 : ∀ w, (Instr.index 123 (.agg #[.int .u32 (y0 : Int), .int .u32 (y1 : Int), .int .u32 (y2 : Int), .int .u32 (y3 : Int), .int .u32 (y4 : Int), .int .u32 (y5 : Int), .int .u32 (y6 : Int), .int .u32 (y7 : Int)]) (.int .i64 5)).run Tryz.prog w = .ok (.int .u32 (y5 : Int)) w := fun _ => by kernel_rfl
            have ix6 : ∀ w, (Instr.index 123 (.agg #[.int .u32 (y0 : Int), .int .u32 (y1 : Int), .int .u32 (y2 : Int), .int .u32 (y3 : Int), .int .u32 (y4 : Int), .int .u32 (y5 : Int), .int .u32 (y6 : Int), .int .u32 (y7 : Int)]) (.int .i64 6)).run Tryz.prog w = .ok (.int .u32 (y6 : Int)) w := fun _ => by kernel_rfl
            have ix7 : ∀ w, (Instr.index 123 (.agg #[.int .u32 (y0 : Int), .int .u32 (y1 : Int), .int .u32 (y2 : Int), .int .u32 (y3 : Int), .int .u32 (y4 : Int), .int .u32 (y5 : Int), .int .u32 (y6 : Int), .int .u32 (y7 : Int)]) (.int .i64 7)).run Tryz.prog w = .ok (.int .u32 (y7 : Int)) w := fun _ => by kernel_rfl
            have e0 := hid (show L.getD 0 0 = y0 by rw [HL.out]; rfl)
            have e1 := hid (show L.getD 1 0 = y1 by rw [HL.out]; rfl)
            have e2 := hid (show L.getD 2 0 = y2 by rw [HL.out]; rfl)
            have e3 := hid (show L.getD 3 0 = y3 by rw [HL.out]; rfl)
            have e4 := hid (show L.getD 4 0 = y4 by rw [HL.out]; rfl)
            have e5 := hid (show L.getD 5 0 = y5 by rw [HL.out]; rfl)
            have e6 := hid (show L.getD 6 0 = y6 by rw [HL.out]; rfl)
            have e7 := hid (show L.getD 7 0 = y7 by rw [HL.out]; rfl)
            have hG0 := hid (show wr.heap[w.heap.size]? = some (.cells (List.replicate 32 (Value.int .u8 0)).toArray 62 (0, 0)) by
              rw [hf.block _ (by have := HF.out.size; omega) (by simp; omega), HF.out.block _ (by omega) (by simp; omega)]; exact HG0.out)
            have BEL := hid (B3.out.trans ((HF.out.below (show w.heap.size ≤ G2 by omega) (by omega)).trans (hf.below (show w.heap.size ≤ G1 by omega) (by have := HF.out.size; omega))))
            have hwsz : w.heap.size < wr.heap.size := by have := HF.out.size; have := hf.size; omega
            clear hh hcu hce bd L8 hf hjN
            go_wp2
            clear u0 u1 u2 u3 u4 u5 u6 u7
            generalize wr = W7 at *
            go_loopw [67] (fun x0 wv => ∃ i : Nat, i ≤ 8 ∧ x0 = .int .i64 i ∧ wv.ownsRow W7.heap.size 62 1 (.slice (some ⟨W7.heap.size, 0, none⟩) 32 32) 32 (nums .u8 (outL L i)) ∧ Far W7.heap.size W7 wv) (fun x0 _ => 8 - (intOf x0).toNat)
            case atStart => exact ⟨0, by omega, rfl, by rw [outL, nums_replicate]; exact O0.out, FA0.out⟩
            case round =>
              obtain ⟨i, hi, rfl, how, hf⟩ := hrel
              clear O0 FA0
              by_cases hlt3 : i < 8
              · have hlO := outL_len L i
                have c0 := how.cellAt (4 * i) (by omega)
                have c1 := how.cellAt (4 * i + 1) (by omega)
                have c2 := how.cellAt (4 * i + 2) (by omega)
                have c3 := how.cellAt (4 * i + 3) (by omega)
                rw [nums_get .u8 (by omega)] at c0 c1 c2 c3
                have f0 := how.frozenAt (4 * i)
                have f1 := how.frozenAt (4 * i + 1)
                have f2 := how.frozenAt (4 * i + 2)
                have f3 := how.frozenAt (4 * i + 3)
                have o1 := (own_store how (4 * i) (z := ((L.getD i 0 / 16777216 % 256 : Nat) : Int)) rfl).1
                have o2 := (own_store o1 (4 * i + 1) (z := ((L.getD i 0 / 65536 % 256 : Nat) : Int)) rfl).1
                have o3 := (own_store o2 (4 * i + 2) (z := ((L.getD i 0 / 256 % 256 : Nat) : Int)) rfl).1
                have o4 := (own_store o3 (4 * i + 3) (z := ((L.getD i 0 % 256 : Nat) : Int)) rfl).1
                have g4 := (((hf.trans (Far.set (H := W7.heap.size) (j := 4 * i) (.int .u8 ((L.getD i 0 / 16777216 % 256 : Nat) : Int)))).trans (Far.set (H := W7.heap.size) (j := 4 * i + 1) (.int .u8 ((L.getD i 0 / 65536 % 256 : Nat) : Int)))).trans
                  (Far.set (H := W7.heap.size) (j := 4 * i + 2) (.int .u8 ((L.getD i 0 / 256 % 256 : Nat) : Int)))).trans (Far.set (H := W7.heap.size) (j := 4 * i + 3) (.int .u8 ((L.getD i 0 % 256 : Nat) : Int)))
                have OW := hid (And.intro (show World.ownsRow _ W7.heap.size 62 1 (.slice (some ⟨W7.heap.size, 0, none⟩) 32 32) 32 (nums .u8 (outL L (i + 1))) from o4) g4)
                generalize (outL L i).getD (4 * i) 0 = v0 at *
                generalize (outL L i).getD (4 * i + 1) 0 = v1 at *
                generalize (outL L i).getD (4 * i + 2) 0 = v2 at *
                generalize (outL L i).getD (4 * i + 3) 0 = v3 at *
                clear o1 o2 o3 o4 g4 how hf hlO
                have hcase : i = 0 ∨ i = 1 ∨ i = 2 ∨ i = 3 ∨ i = 4 ∨ i = 5 ∨ i = 6 ∨ i = 7 := by omega
                rcases hcase with rfl | rfl | rfl | rfl | rfl | rfl | rfl | rfl
                · simp only [Nat.mul_zero, Nat.zero_add] at c0 c1 c2 c3 f0 f1 f2 f3 OW
                  rw [e0.out] at OW
                  go_wp2
                  rw [by24 bd0, by16, by8, by0]
                  exact ⟨⟨1, by decide, rfl, OW.out.1, OW.out.2⟩, by simp [intOf]⟩
                · simp only [Nat.reduceMul, Nat.reduceAdd] at c0 c1 c2 c3 f0 f1 f2 f3 OW
                  rw [e1.out] at OW
                  go_wp2
                  rw [by24 bd1, by16, by8, by0]
                  exact ⟨⟨2, by decide, rfl, OW.out.1, OW.out.2⟩, by simp [intOf]⟩
                · simp only [Nat.reduceMul, Nat.reduceAdd] at c0 c1 c2 c3 f0 f1 f2 f3 OW
                  rw [e2.out] at OW
                  go_wp2
                  rw [by24 bd2, by16, by8, by0]
                  exact ⟨⟨3, by decide, rfl, OW.out.1, OW.out.2⟩, by simp [intOf]⟩
                · simp only [Nat.reduceMul, Nat.reduceAdd] at c0 c1 c2 c3 f0 f1 f2 f3 OW
                  rw [e3.out] at OW
                  go_wp2
                  rw [by24 bd3, by16, by8, by0]
                  exact ⟨⟨4, by decide, rfl, OW.out.1, OW.out.2⟩, by simp [intOf]⟩
                · simp only [Nat.reduceMul, Nat.reduceAdd] at c0 c1 c2 c3 f0 f1 f2 f3 OW
                  rw [e4.out] at OW
                  go_wp2
                  rw [by24 bd4, by16, by8, by0]
                  exact ⟨⟨5, by decide, rfl, OW.out.1, OW.out.2⟩, by simp [intOf]⟩
                · simp only [Nat.reduceMul, Nat.reduceAdd] at c0 c1 c2 c3 f0 f1 f2 f3 OW
                  rw [e5.out] at OW
                  go_wp2
                  rw [by24 bd5, by16, by8, by0]
                  exact ⟨⟨6, by decide, rfl, OW.out.1, OW.out.2⟩, by simp [intOf]⟩
                · simp only [Nat.reduceMul, Nat.reduceAdd] at c0 c1 c2 c3 f0 f1 f2 f3 OW
                  rw [e6.out] at OW
                  go_wp2
                  rw [by24 bd6, by16, by8, by0]
                  exact ⟨⟨7, by decide, rfl, OW.out.1, OW.out.2⟩, by simp [intOf]⟩
                · simp only [Nat.reduceMul, Nat.reduceAdd] at c0 c1 c2 c3 f0 f1 f2 f3 OW
                  rw [e7.out] at OW
                  go_wp2
                  rw [by24 bd7, by16, by8, by0]
                  exact ⟨⟨8, by decide, rfl, OW.out.1, OW.out.2⟩, by simp [intOf]⟩
              · have hge3 : 8 ≤ i := by omega
                rw [show i = 8 by omega, HL.out, outL_eq, ← HL.out, ← HSHA.out] at how
                have HFv := hid hf
                rcases how.2 with ⟨hbad, _⟩ | ⟨g, cap, cu3, hv3, _, hg3, _, _, hsz3', htk⟩
                · simp at hbad
                · simp only [Value.slice.injEq, Option.some.injEq, Addr.mk.injEq, and_true, true_and] at hv3
                  obtain ⟨rfl, rfl⟩ := hv3
                  have hcl : cu3.toList = nums .u8 (sha all) := by
                    rw [← htk, List.take_of_length_le (by rw [Array.length_toList, hsz3']; exact Nat.le_refl _)]
                  have hcu3 : cu3 = (nums .u8 (sha all)).toArray := by rw [← hcl]
                  have hg0' := hid (show wr.heap[w.heap.size]? = some (.cells (List.replicate 32 (Value.int .u8 0)).toArray 62 (0, 0)) by rw [hf.block _ hwsz (by simp; omega)]; exact hG0.out)
                  have hg3' := hid hg3
                  have hi3 : (Tryz.prog.info? 62).map (·.size) = some cu3.size := by rw [hsz3']; exact infoH
                  have h1c : cu3.all (·.oneCell') = true := by
                    rw [hcu3]
                    simp [nums, Value.oneCell']
                  have h32 : ((List.replicate 32 (Value.int .u8 0)).toArray).size = cu3.size := by rw [hsz3']; rfl
                  have HCU3 := hid hcu3
                  have BF := hid (BEL.out.trans (hf.below (show w.heap.size ≤ W7.heap.size by omega) (by omega)))
                  clear how hf hg3 htk hcl hcu3 hsz3'
                  go_wp2_with (first | (refine wpList_load_row rfl _ _ rfl W7.heap.size rfl _ cu3 _ _ hg3'.out Tryz.underlying62 rfl hi3 ?_) | (refine wpList_store_row rfl _ _ _ rfl w.heap.size cu3 rfl rfl _ _ hg0'.out hi3 h32 h1c ?_))
                  (try simp only [Exit.inBlock, Exit.then])
                  refine bodyPost_ret (results_cell_row rfl _ _ w.heap.size _ cu3 _ _ rfl (setRow_heap wr w.heap.size _ cu3 _ _ hg0'.out) Tryz.underlying62 rfl hi3) rfl ?_
                  exact ⟨by rw [HCU3.out]; rfl, below_setRow BF.out (Nat.le_refl _) _⟩
end Go.Proofs.YtnophelfpoldfaaGreatDoor
