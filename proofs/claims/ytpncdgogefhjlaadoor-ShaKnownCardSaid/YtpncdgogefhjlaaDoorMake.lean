/- The walks of the reference's primes and Make. -/
import Derived.Test.YtpncdgogefhjlaaDoorRoot
import Derived.Test.YtpncdgogefhjlaaDoorShaM
import Derived.Test.YtpncdgogefhjlaaDoorSlice
import Derived.Laws.Tables
namespace Go.Proofs.YtpncdgogefhjlaaDoor
open Go.RowKit

theorem all_take_succ {l : List Nat} {i x p : Nat} (h : l[i]? = some p) : (l.take (i + 1)).all (fun p => decide (x % p ≠ 0)) = ((l.take i).all (fun p => decide (x % p ≠ 0)) && decide (x % p ≠ 0)) := by
  rw [List.take_add_one, h, List.all_append]
  simp
def PrRes (w : World) (e : Ending) (w' : World) : Prop := ∃ v, e = .returned v ∧ w'.ownsRow w.heap.size 3 1 v PL.length (nums .i64 PL) ∧ Below w.heap.size w w'
set_option maxRecDepth 100000 in
set_option maxHeartbeats 2000000 in
theorem primes_walk (w : World) : Calls Tryd.prog 20 #[.int .i64 64] w (PrRes w) := by
  have O0 := hid (World.ownsRow_made (base := w.heap.size) (e := 3) (size := 1) w #[] 0 (Nat.le_refl _) (by simp) (by simp))
  have B0 := hid ((Below.refl w.heap.size w).alloc (Nat.le_refl _) (.cells #[] 3))
  go_enter Tryd.func20, Tryd.ntmps20
  go_wp2
  go_loopw [3, 4] (fun x3 x4 wr => ∃ (k x : Nat) (v : Value), k ≤ 310 ∧ Hid (x = k + 2) ∧ x ≤ 312 ∧ v = x3 ∧ x4 = .int .i64 x ∧ wr.ownsRow w.heap.size 3 1 v (prN k).length (nums .i64 (prN k)) ∧ Below w.heap.size w wr) (fun _ x4 _ => 312 - (intOf x4).toNat)
  case atStart => exact ⟨0, 2, _, by omega, hid rfl, by omega, rfl, rfl, O0.out, B0.out⟩
  case round =>
    obtain ⟨k, x, v, hk, hx, hx312, rfl, rfl, hown, hb⟩ := hrel
    clear O0 B0
    obtain ⟨a, c, rfl, r⟩ := Rd.of_owns hown
    have HO := hid hown
    have HB := hid hb
    have HS := hid (show Sl .i64 wr a (prN k).length c (prN k) from r)
    have hx' := hx.out
    have hx2 : 2 ≤ x := by omega
    by_cases hlt : (prN k).length < 64
    · have hk310 : k < 310 := by
        rcases Nat.lt_or_ge k 310 with h | h
        · exact h
        · exfalso
          have e : k = 310 := by omega
          rw [e, prN_310] at hlt
          exact absurd hlt (by decide)
      have hpos := hid (prN_pos k)
      have hstep := hid (show prN (k + 1) = prStep (prN k) x by rw [prN, hx'])
      obtain ⟨L, hL⟩ : ∃ L, L = (prN k).length := ⟨_, rfl⟩
      rw [← hL] at HO HS hlt ⊢
      have HLn := hid hL
      clear hown hb r hx' hL
      generalize prN k = ps at *
      go_wp2
      generalize wr = W1 at *
      go_loopw [5, 17] (fun x5 x17 wr => ∃ (i : Nat) (b : Bool), i ≤ L ∧ x17 = .int .i64 i ∧ x5 = .bool b ∧ Hid (b = (ps.take i).all (fun p => decide (x % p ≠ 0))) ∧ wr = W1) (fun _ x17 _ => L - (intOf x17).toNat)
      case atStart => exact ⟨0, true, by omega, rfl, rfl, hid (by simp), rfl⟩
      case round =>
        obtain ⟨i, b, hi, rfl, rfl, hbb, rfl⟩ := hrel
        by_cases hil : i < L
        · obtain ⟨p, hp⟩ : ∃ p, ps[i]? = some p := ⟨ps[i]'(by have := HLn.out; omega), List.getElem?_eq_getElem _⟩
          have hp2 := (hpos.out p (List.mem_of_getElem? hp))
          have hp1 : 2 ≤ p := hp2.1
          have hp3 : p < 1000 := by omega
          obtain ⟨bk, off, ha, hc⟩ := HS.out.opened
          obtain rfl := ha (by omega)
          have ci := hc i hil
          rw [List.getD_eq_getElem?_getD, hp, Option.getD_some] at ci
          have HA := hid (all_take_succ (x := x) hp)
          clear hc ha hp hp2
          obtain ⟨q, hq⟩ : ∃ q : Nat, q = x % p := ⟨_, rfl⟩
          have eq1 : (x : Int) % (p : Int) = (q : Int) := by rw [hq]; exact (Int.natCast_emod x p).symm
          have eq2 : (x : Int).tmod (p : Int) = (q : Int) := by rw [Int.tmod_eq_emod_of_nonneg (by omega)]; exact eq1
          have HQ := hid hq
          clear hq
          by_cases hq0 : q = 0
          · have tq : ((q : Int) == 0) = true := by rw [beq_iff_eq]; omega
            have hn := hid (show false = (ps.take (i + 1)).all (fun p => decide (x % p ≠ 0)) by rw [HA.out, ← HQ.out, hq0]; simp)
            have HQ0 := hid hq0
            clear hq0
            go_wp2
            go_roundw
            case rel => exact ⟨i + 1, false, by omega, by go_num, rfl, hn, (by first | rfl | trivial)⟩
            case measure => simp [intOf]; omega
          · have tq : ((q : Int) == 0) = false := by rw [beq_eq_false_iff_ne]; omega
            have hn := hid (show b = (ps.take (i + 1)).all (fun p => decide (x % p ≠ 0)) by rw [HA.out, ← HQ.out, ← hbb.out]; simp [hq0])
            go_wp2
            go_roundw
            case rel => exact ⟨i + 1, b, by omega, by go_num, rfl, hn, (by first | rfl | trivial)⟩
            case measure => simp [intOf]; omega
        · have et : ps.take i = ps := List.take_of_length_le (by have := HLn.out; omega)
          rw [et] at hbb
          have ex1 : (x : Int) + 1 = ((x + 1 : Nat) : Int) := by omega
          obtain ⟨y, hy⟩ : ∃ y : Nat, y = x + 1 := ⟨_, rfl⟩
          rw [← hy] at ex1
          have hxy := hid (show y = (k + 1) + 2 by have := hx.out; omega)
          have hy312 : y ≤ 312 := by have := hx.out; omega
          clear et hy
          cases b with
          | true =>
            have hps := hid (show prN (k + 1) = ps ++ [x] by rw [hstep.out, prStep, if_pos hbb.out.symm])
            have hLn4 : L < 4294967296 := by omega
            go_wp2_with (at_builtin; refine wpList_push rfl _ _ 52 rfl tyInt1 w.heap.size HO.out rfl rfl rfl rfl hLn4 (by decide) HB.out.size ?_)
            intro v2 w2 own2 b2 hs2 _
            have OW := hid (show w2.ownsRow w.heap.size 3 1 v2 (prN (k + 1)).length (nums .i64 (prN (k + 1))) by
              rw [hps.out, List.length_append, List.length_singleton, ← HLn.out, ← nums_snoc .i64 (show (x : Int) = ((x : Nat) : Int) from rfl)]; exact own2)
            have B2 := hid (HB.out.trans b2)
            clear own2 b2 hs2
            go_wp2
            go_roundw
            case rel => exact ⟨k + 1, y, v2, by omega, hxy, hy312, rfl, rfl, OW.out, B2.out⟩
            case measure => simp [intOf]; have := hx.out; have := hxy.out; omega
          | false =>
            have hps := hid (show prN (k + 1) = ps by rw [hstep.out, prStep, if_neg (by rw [← hbb.out]; simp)])
            go_wp2
            go_roundw
            case rel => exact ⟨k + 1, y, _, by omega, hxy, hy312, rfl, rfl, by rw [hps.out, ← HLn.out]; exact HO.out, HB.out⟩
            case measure => simp [intOf]; have := hx.out; have := hxy.out; omega
    · have hk310 : k = 310 := by
        rcases Nat.lt_or_ge k 310 with h | h
        · exact absurd (prN_short k h) hlt
        · omega
      have e : prN k = PL := by rw [hk310]; exact prN_310
      rw [e] at hown HS hlt ⊢
      have F := hid (show PrRes w (.returned (.slice a PL.length c)) wr from ⟨_, rfl, hown, hb⟩)
      have hl64 : ¬ PL.length < 64 := by decide
      clear hown hb HO HS r e
      generalize PL.length = L at *
      go_wp2
      go_ret
      exact F.out
theorem pl_pos : ∀ i, i < 64 → 0 < PL.getD i 0 := by decide +kernel
theorem zeroTab : Tryd.zeroCells32.toList = nums .u32 (List.replicate 72 0) := by kernel_rfl
theorem infoTab : (Tryd.prog.info? 32).map (·.size) = some 72 := by kernel_rfl
theorem zeroTab_size : Tryd.zeroCells32.size = 72 := by
  have := congrArg List.length zeroTab
  rw [nums_length, List.length_replicate, Array.length_toList] at this
  exact this
theorem zeroTab_one : Tryd.zeroCells32.all (·.oneCell') = true := by kernel_rfl
/-- the tables as a value -/
def tabV : Value := .agg (nums .u32 (H0 ++ K0)).toArray
def tabI (i : Nat) : List Nat := padW (H0.take i) 8 ++ padW (K0.take i) 64
theorem tab_zero : tabI 0 = List.replicate 72 0 := by decide
theorem tab_len (i : Nat) : (tabI i).length = 72 := by
  unfold tabI
  rw [List.length_append, padW_len (by rw [List.length_take]; exact Nat.min_le_right _ _), padW_len (by rw [List.length_take]; exact Nat.min_le_right _ _)]
theorem tab_full : tabI 64 = H0 ++ K0 := by decide
theorem tab_step8 {i : Nat} (h : i < 8) : ((tabI i).set (8 + i) (K0.getD i 0)).set i (H0.getD i 0) = tabI (i + 1) := by
  have h1 : i = 0 ∨ i = 1 ∨ i = 2 ∨ i = 3 ∨ i = 4 ∨ i = 5 ∨ i = 6 ∨ i = 7 := by omega
  rcases h1 with rfl | rfl | rfl | rfl | rfl | rfl | rfl | rfl <;> decide
theorem tab_step {i : Nat} (h : 8 ≤ i) (hi : i < 64) : (tabI i).set (8 + i) (K0.getD i 0) = tabI (i + 1) := by
  have hK : K0.length = 64 := rfl
  have hH : H0.length = 8 := rfl
  have e1 : H0.take i = H0 := List.take_of_length_le (by omega)
  have e2 : H0.take (i + 1) = H0 := List.take_of_length_le (by omega)
  have e3 : K0.take (i + 1) = K0.take i ++ [K0.getD i 0] := by
    rw [List.take_add_one, List.getD_eq_getElem?_getD, List.getElem?_eq_getElem (by omega)]; rfl
  have hp : (padW H0 8).length = 8 := padW_len (by omega)
  unfold tabI
  rw [e1, e2, List.set_append_right _ _ (by omega), hp, Nat.add_sub_cancel_left, padW_set (by rw [List.length_take]; omega) hi, e3]
def MkRes (w : World) (e : Ending) (w' : World) : Prop := e = .returned tabV ∧ Below w.heap.size w w'
theorem alloc2m (w : World) (a b : Obj) : ((w.alloc a).alloc b).heap[w.heap.size]? = some a ∧ ((w.alloc a).alloc b).heap[w.heap.size + 1]? = some b ∧ ((w.alloc a).alloc b).heap.size = w.heap.size + 1 + 1 ∧ Below w.heap.size w ((w.alloc a).alloc b) := by
  have e1 : (w.alloc a).heap.size = w.heap.size + 1 := by simp
  have h0 := heap_alloc_new w a
  have h1 := heap_alloc_new (w.alloc a) b
  rw [e1] at h1
  exact ⟨by rw [Below.heap_alloc _ _ _ (by omega)]; exact h0, h1, by simp, ((Below.refl w.heap.size w).alloc (Nat.le_refl _) a).alloc (by omega) b⟩
set_option maxRecDepth 100000 in
set_option maxHeartbeats 2000000 in
theorem make_walk (w : World) : Calls Tryd.prog 11 #[] w (MkRes w) := by
  have A2 := hid (alloc2m w (.cells Tryd.zeroCells32 32) (.cells Tryd.zeroCells32 32))
  go_enter Tryd.func11, Tryd.ntmps11
  have hzi : (Tryd.prog.info? 32).map (·.size) = some Tryd.zeroCells32.size := by rw [zeroTab_size]; exact infoTab
  have hW2 := hid (setRow_heap ((w.alloc (.cells Tryd.zeroCells32 32)).alloc (.cells Tryd.zeroCells32 32)) (w.heap.size + 1) _ Tryd.zeroCells32 _ _ A2.out.2.1)
  have hW0 := hid (show (((w.alloc (.cells Tryd.zeroCells32 32)).alloc (.cells Tryd.zeroCells32 32)).setRow (w.heap.size + 1) Tryd.zeroCells32).heap[w.heap.size]? = some (.cells Tryd.zeroCells32 32 (0, 0)) by rw [setRow_other _ _ _ _ (by omega)]; exact A2.out.1)
  have hWB := hid (below_setRow A2.out.2.2.2 (show w.heap.size ≤ w.heap.size + 1 by omega) Tryd.zeroCells32)
  go_wp2_with (refine wpList_store_row rfl _ _ _ rfl (w.heap.size + 1) Tryd.zeroCells32 rfl rfl _ _ A2.out.2.1 hzi rfl zeroTab_one ?_)
  clear A2 hzi
  generalize ((w.alloc (.cells Tryd.zeroCells32 32)).alloc (.cells Tryd.zeroCells32 32)).setRow (w.heap.size + 1) Tryd.zeroCells32 = W2 at *
  obtain ⟨G1, hG1⟩ : ∃ G1, G1 = w.heap.size + 1 := ⟨_, rfl⟩
  rw [← hG1] at hW2 ⊢
  have l01 : w.heap.size < G1 := by omega
  have own0 := hid (own_of_heap (B := w.heap.size + 1) (n := 72) (L := nums .u32 (tabI 0)) hW2.out (by rw [zeroTab, tab_zero]) (by rw [nums_length, tab_len]) (by omega) (by decide))
  have HG0 := hid (show w.heap.size < W2.heap.size from (Array.getElem?_eq_some_iff.1 hW0.out).1)
  clear hG1 hW2
  go_wp2_with fail
  refine (primes_walk _).mono ?_
  rintro e w3 ⟨v3, rfl, o3, b3⟩
  have HB := hid (hWB.out.trans (b3.mono hWB.out.size))
  have own3 := hid (own_below own0.out b3)
  have hW3 := hid (show w3.heap[w.heap.size]? = some (.cells Tryd.zeroCells32 32 (0, 0)) by rw [b3.block _ HG0.out]; exact hW0.out)
  have hPL : PL.length = 64 := rfl
  rw [hPL] at o3
  obtain ⟨a3, c3, rfl, _⟩ := Rd.of_owns o3
  obtain ⟨bk, rfl, _⟩ := own_addr o3 (by omega)
  have hbk := (o3.lt bk rfl).1
  have hGW : G1 < W2.heap.size := (own0.out.lt G1 rfl).2
  have HCL := hid (fun i (hi : i < 64) => show w3.cell? ⟨bk, i, none⟩ = some (.int .i64 ((PL.getD i 0 : Nat) : Int)) from (o3.cellAt i (by omega)).trans (nums_get .i64 (by rw [hPL]; exact hi)))
  have hbG : bk ≠ G1 := by omega
  clear b3 own0 hW0 HG0 hWB o3 hPL hbk hGW
  go_wp2
  go_loopw [7] (fun x0 wr => ∃ i : Nat, i ≤ 64 ∧ x0 = .int .i64 i ∧ wr.ownsRow (w.heap.size + 1) 32 1 (.slice (some ⟨G1, 0, none⟩) 72 72) 72 (nums .u32 (tabI i)) ∧ Below w.heap.size w wr ∧ Far G1 w3 wr) (fun x0 _ => 64 - (intOf x0).toNat)
  case atStart => exact ⟨0, by omega, rfl, own3.out, HB.out, Far.refl _ _⟩
  case round =>
    obtain ⟨i, hi, rfl, how, hb, hf⟩ := hrel
    have HO := hid how
    have HBW := hid hb
    have HFW := hid hf
    clear own3 HB
    by_cases hlt : i < 64
    · have cp := HCL.out i hlt
      have cpw : wr.cell? ⟨bk, i, none⟩ = some (.int .i64 ((PL.getD i 0 : Nat) : Int)) := by
        rw [World.cell?_of_block (hf.block bk (World.block_lt_of_cell? w3 _ cp) (by simpa using hbG))]
        exact cp
      obtain ⟨x31, x32, x33⟩ := x3_ok i hlt
      have hpl := pl_lt i hlt
      have hp0 := pl_pos i hlt
      have R3 := fun wx => hid (root3_walk (PL.getD i 0) (X3.getD i 0) hp0 hpl x31 x32 wx)
      rw [x33] at R3
      have kl := getDlt K0_lt (by omega) i
      have hiI : (i : Int) < 64 := by omega
      by_cases h8 : i < 8
      · have t8 : decide ((i : Int) < 8) = true := by rw [decide_eq_true_eq]; omega
        have hiI8 : (i : Int) < 8 := by omega
        obtain ⟨x21, x22, x23⟩ := x2_ok i h8
        have R2 := fun wx => hid (root2_walk (PL.getD i 0) (X2.getD i 0) hp0 hpl x21 x22 wx)
        rw [x23] at R2
        have hl := getDlt H0_lt (by omega) i
        have hst := hid (tab_step8 h8)
        generalize PL.getD i 0 = p at *
        generalize K0.getD i 0 = kv at *
        generalize H0.getD i 0 = hv' at *
        clear x31 x32 x33 x21 x22 x23 how hb hf cp
        go_wp2_with fail
        refine (R3 _).out.mono ?_
        rintro e w4 ⟨rfl, b4⟩
        have how4 := own_below HO.out b4
        have cK := how4.cellAt (8 + i) (by omega)
        rw [nums_get .u32 (by rw [tab_len]; omega)] at cK
        have fK := how4.frozenAt (8 + i)
        have O4 := hid (own_store how4 (8 + i) (z := (kv : Int)) rfl)
        have F4 := hid ((HFW.out.trans (Far.of b4)).trans (Far.set (H := G1) (j := 8 + i) (w := w4) (.int .u32 (kv : Int))))
        have B4 := hid ((HBW.out.trans (b4.mono HBW.out.size)).trans (O4.out.2.mono (by omega)))
        generalize (tabI i).getD (8 + i) 0 = oldk at *
        clear b4 how4
        go_wp2_with fail
        clear cK fK
        refine (R2 _).out.mono ?_
        rintro e w5 ⟨rfl, b5⟩
        have how5 := own_below O4.out.1 b5
        have cH := how5.cellAt i (by omega)
        rw [nums_get .u32 (by rw [List.length_set, tab_len]; omega)] at cH
        have fH := how5.frozenAt i
        have O5 := hid (own_store how5 i (z := (hv' : Int)) rfl)
        have F5 := hid ((F4.out.trans (Far.of b5)).trans (Far.set (H := G1) (j := i) (w := w5) (.int .u32 (hv' : Int))))
        have B5 := hid ((B4.out.trans (b5.mono B4.out.size)).trans (O5.out.2.mono (by omega)))
        generalize ((tabI i).set (8 + i) kv).getD i 0 = oldh at *
        clear b5 how5 O4 F4 B4
        go_wp2
        go_roundw
        case rel => exact ⟨i + 1, by omega, by go_num, by rw [← hst.out]; exact O5.out.1, B5.out, F5.out⟩
        case measure => simp [intOf]; omega
      · have t8 : decide ((i : Int) < 8) = false := by rw [decide_eq_false_iff_not]; omega
        have hst := hid (tab_step (by omega) hlt)
        generalize PL.getD i 0 = p at *
        generalize K0.getD i 0 = kv at *
        clear x31 x32 x33 how hb hf cp
        go_wp2_with fail
        refine (R3 _).out.mono ?_
        rintro e w4 ⟨rfl, b4⟩
        have how4 := own_below HO.out b4
        have cK := how4.cellAt (8 + i) (by omega)
        rw [nums_get .u32 (by rw [tab_len]; omega)] at cK
        have fK := how4.frozenAt (8 + i)
        have O4 := hid (own_store how4 (8 + i) (z := (kv : Int)) rfl)
        have F4 := hid ((HFW.out.trans (Far.of b4)).trans (Far.set (H := G1) (j := 8 + i) (w := w4) (.int .u32 (kv : Int))))
        have B4 := hid ((HBW.out.trans (b4.mono HBW.out.size)).trans (O4.out.2.mono (by omega)))
        generalize (tabI i).getD (8 + i) 0 = oldk at *
        clear b4 how4
        go_wp2
        go_roundw
        case rel => exact ⟨i + 1, by omega, by go_num, by rw [← hst.out]; exact O4.out.1, B4.out, F4.out⟩
        case measure => simp [intOf]; omega
    · have hge : 64 ≤ i := by omega
      rw [show i = 64 by omega, tab_full] at how
      have h0 := hid (show wr.heap[w.heap.size]? = some (.cells Tryd.zeroCells32 32 (0, 0)) by rw [hf.block _ (Array.getElem?_eq_some_iff.1 hW3.out).1 (by simp; omega)]; exact hW3.out)
      rcases how.2 with ⟨hbad, _⟩ | ⟨g, cap, cu3, hv3, _, hg3, _, _, hsz3', htk⟩
      · simp at hbad
      · simp only [Value.slice.injEq, Option.some.injEq, Addr.mk.injEq, and_true, true_and] at hv3
        obtain ⟨rfl, rfl⟩ := hv3
        have hcl : cu3.toList = nums .u32 (H0 ++ K0) := by
          rw [← htk, List.take_of_length_le (by rw [Array.length_toList, hsz3']; exact Nat.le_refl _)]
        have hcu3 := hid (show cu3 = (nums .u32 (H0 ++ K0)).toArray by rw [← hcl])
        have hg3' := hid hg3
        have hi3 : (Tryd.prog.info? 32).map (·.size) = some cu3.size := by rw [hsz3']; exact infoTab
        have h1c : cu3.all (·.oneCell') = true := by
          rw [hcu3.out]
          simp [nums, Value.oneCell']
        have h72 : Tryd.zeroCells32.size = cu3.size := by rw [hsz3']; exact zeroTab_size
        clear how hf hb hg3 htk hcl hsz3'
        go_wp2_with (first | (refine wpList_load_row rfl _ _ rfl G1 rfl _ cu3 _ _ hg3'.out Tryd.underlying32 rfl hi3 ?_) | (refine wpList_store_row rfl _ _ _ rfl w.heap.size cu3 rfl rfl _ _ h0.out hi3 h72 h1c ?_))
        (try simp only [Exit.inBlock, Exit.then])
        refine bodyPost_ret (results_cell_row rfl _ _ w.heap.size _ cu3 _ _ rfl (setRow_heap wr w.heap.size _ cu3 _ _ h0.out) Tryd.underlying32 rfl hi3) rfl ?_
        exact ⟨by rw [hcu3.out]; rfl, below_setRow HBW.out (Nat.le_refl _) _⟩
end Go.Proofs.YtpncdgogefhjlaaDoor
