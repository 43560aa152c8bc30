/- slices.Clone at the chain's paths, inputs, outputs. -/
import Derived.Test.YtdopbhahcpjjgaaDoorChd
namespace Go.Proofs.YtdopbhahcpjjgaaDoor
open Go.RowKit

def zPath : Array Value := (nums .u8 (List.replicate 96 0) ++ [Value.int .i64 0, Value.int .i64 0]).toArray
def zIn : Array Value := (nums .u8 (List.replicate 32 0) ++ (Value.int .i64 0 :: Value.int .i64 0 :: nums .u8 (List.replicate 96 0))).toArray
def zOut : Array Value := (Value.int .u64 0 :: Value.slice none 0 0 :: nums .u8 (List.replicate 32 0)).toArray
/-- a copy: the same cells in a row of one's own -/
def CloC (w : World) (t : TypeId) (size n : Nat) (xs : List Value) (e : Ending) (w' : World) : Prop := ∃ a c, e = .returned (.slice a n c) ∧ w'.ownsRow w.heap.size t size (.slice a n c) n xs ∧ Below w.heap.size w w'
set_option maxRecDepth 100000 in
theorem tyPath : SliceTy Tryd.prog 39 61 98 112 (.agg zPath) := .mk' Tryd.underlying39 (by kernel_rfl) (by decide) (by decide)
set_option maxRecDepth 100000 in
set_option maxHeartbeats 4000000 in
theorem cloPath_walk (a : Option Addr) (n c : Nat) (xs : List Value) (w : World) (h : Rd w 98 a n c xs) (h1 : ∀ u ∈ xs, u.oneCell' = true) (hn : n ≤ 4096) : Calls Tryd.prog 44 #[.slice a n c] w (CloC w 61 98 n xs) := by
  have H := hid h
  have hn0' : ∀ (a : Option Addr) (n c : Nat) (w : World), (binOp .eql 39 (.slice a n c) (.slice none 0 0)).run Tryd.prog w = .ok (.bool a.isNone) w := fun a n c w => Go.Lib.run_eql_slice_nil w _ _ a n c 0 0 Tryd.underlying39
  cases a with
  | none =>
    have hc : c = 0 := h.2.2.2.1 rfl
    have hn0 : n = 0 := by have := h.2.1; omega
    subst hc
    subst hn0
    have hx : xs = [] := List.eq_nil_of_length_eq_zero (by have := h.1; omega)
    subst hx
    clear h h1
    go_enter Tryd.func44, Tryd.ntmps44
    go_wp2
    go_ret
    exact ⟨none, 0, rfl, ⟨rfl, .inl ⟨rfl, rfl⟩⟩, Below.refl _ _⟩
  | some ad =>
    have MD := hid (World.ownsRow_made w #[] 0 (base := w.heap.size) (e := 61) (size := 98) (Nat.le_refl _) (by simp) (by simp))
    have mb0 := (Below.refl w.heap.size w).alloc (Nat.le_refl _) (.cells #[] 61)
    have RD := hid (show Rd _ 98 (some ad) n c xs from h.below mb0)
    have M0 := hid mb0
    have ONE := hid h1
    have HN := hid hn
    clear mb0 h h1
    go_enter Tryd.func44, Tryd.ntmps44
    go_wp2_with (at_builtin; refine wpList_cat rfl _ _ 39 rfl tyPath w.heap.size MD.out rfl rfl RD.out ONE.out (by have := HN.out; omega) (by have := HN.out; unfold maxLen; omega) (by simp) ?_; intro v5 w5 own5 b5 hs5 _; have O5 := hid own5; have B5 := hid b5; clear own5 b5 hs5)
    go_ret
    have o := O5.out
    simp only [List.nil_append, Nat.zero_add] at o
    obtain ⟨a5, c5, e5, _⟩ := Rd.of_owns o
    exact ⟨a5, c5, congrArg Ending.returned e5, by rw [← e5]; exact o, M0.out.trans B5.out⟩
set_option maxRecDepth 100000 in
theorem tyIn : SliceTy Tryd.prog 22 33 130 144 (.agg zIn) := .mk' Tryd.underlying22 (by kernel_rfl) (by decide) (by decide)
set_option maxRecDepth 100000 in
set_option maxHeartbeats 4000000 in
theorem cloIn_walk (a : Option Addr) (n c : Nat) (xs : List Value) (w : World) (h : Rd w 130 a n c xs) (h1 : ∀ u ∈ xs, u.oneCell' = true) (hn : n ≤ 4096) : Calls Tryd.prog 31 #[.slice a n c] w (CloC w 33 130 n xs) := by
  have H := hid h
  have hn0' : ∀ (a : Option Addr) (n c : Nat) (w : World), (binOp .eql 22 (.slice a n c) (.slice none 0 0)).run Tryd.prog w = .ok (.bool a.isNone) w := fun a n c w => Go.Lib.run_eql_slice_nil w _ _ a n c 0 0 Tryd.underlying22
  cases a with
  | none =>
    have hc : c = 0 := h.2.2.2.1 rfl
    have hn0 : n = 0 := by have := h.2.1; omega
    subst hc
    subst hn0
    have hx : xs = [] := List.eq_nil_of_length_eq_zero (by have := h.1; omega)
    subst hx
    clear h h1
    go_enter Tryd.func31, Tryd.ntmps31
    go_wp2
    go_ret
    exact ⟨none, 0, rfl, ⟨rfl, .inl ⟨rfl, rfl⟩⟩, Below.refl _ _⟩
  | some ad =>
    have MD := hid (World.ownsRow_made w #[] 0 (base := w.heap.size) (e := 33) (size := 130) (Nat.le_refl _) (by simp) (by simp))
    have mb0 := (Below.refl w.heap.size w).alloc (Nat.le_refl _) (.cells #[] 33)
    have RD := hid (show Rd _ 130 (some ad) n c xs from h.below mb0)
    have M0 := hid mb0
    have ONE := hid h1
    have HN := hid hn
    clear mb0 h h1
    go_enter Tryd.func31, Tryd.ntmps31
    go_wp2_with (at_builtin; refine wpList_cat rfl _ _ 22 rfl tyIn w.heap.size MD.out rfl rfl RD.out ONE.out (by have := HN.out; omega) (by have := HN.out; unfold maxLen; omega) (by simp) ?_; intro v5 w5 own5 b5 hs5 _; have O5 := hid own5; have B5 := hid b5; clear own5 b5 hs5)
    go_ret
    have o := O5.out
    simp only [List.nil_append, Nat.zero_add] at o
    obtain ⟨a5, c5, e5, _⟩ := Rd.of_owns o
    exact ⟨a5, c5, congrArg Ending.returned e5, by rw [← e5]; exact o, M0.out.trans B5.out⟩
set_option maxRecDepth 100000 in
theorem tyOut : SliceTy Tryd.prog 23 41 34 64 (.agg zOut) := .mk' Tryd.underlying23 (by kernel_rfl) (by decide) (by decide)
set_option maxRecDepth 100000 in
set_option maxHeartbeats 4000000 in
theorem cloOut_walk (a : Option Addr) (n c : Nat) (xs : List Value) (w : World) (h : Rd w 34 a n c xs) (h1 : ∀ u ∈ xs, u.oneCell' = true) (hn : n ≤ 4096) : Calls Tryd.prog 32 #[.slice a n c] w (CloC w 41 34 n xs) := by
  have H := hid h
  have hn0' : ∀ (a : Option Addr) (n c : Nat) (w : World), (binOp .eql 23 (.slice a n c) (.slice none 0 0)).run Tryd.prog w = .ok (.bool a.isNone) w := fun a n c w => Go.Lib.run_eql_slice_nil w _ _ a n c 0 0 Tryd.underlying23
  cases a with
  | none =>
    have hc : c = 0 := h.2.2.2.1 rfl
    have hn0 : n = 0 := by have := h.2.1; omega
    subst hc
    subst hn0
    have hx : xs = [] := List.eq_nil_of_length_eq_zero (by have := h.1; omega)
    subst hx
    clear h h1
    go_enter Tryd.func32, Tryd.ntmps32
    go_wp2
    go_ret
    exact ⟨none, 0, rfl, ⟨rfl, .inl ⟨rfl, rfl⟩⟩, Below.refl _ _⟩
  | some ad =>
    have MD := hid (World.ownsRow_made w #[] 0 (base := w.heap.size) (e := 41) (size := 34) (Nat.le_refl _) (by simp) (by simp))
    have mb0 := (Below.refl w.heap.size w).alloc (Nat.le_refl _) (.cells #[] 41)
    have RD := hid (show Rd _ 34 (some ad) n c xs from h.below mb0)
    have M0 := hid mb0
    have ONE := hid h1
    have HN := hid hn
    clear mb0 h h1
    go_enter Tryd.func32, Tryd.ntmps32
    go_wp2_with (at_builtin; refine wpList_cat rfl _ _ 23 rfl tyOut w.heap.size MD.out rfl rfl RD.out ONE.out (by have := HN.out; omega) (by have := HN.out; unfold maxLen; omega) (by simp) ?_; intro v5 w5 own5 b5 hs5 _; have O5 := hid own5; have B5 := hid b5; clear own5 b5 hs5)
    go_ret
    have o := O5.out
    simp only [List.nil_append, Nat.zero_add] at o
    obtain ⟨a5, c5, e5, _⟩ := Rd.of_owns o
    exact ⟨a5, c5, congrArg Ending.returned e5, by rw [← e5]; exact o, M0.out.trans B5.out⟩
end Go.Proofs.YtdopbhahcpjjgaaDoor

/- The law's bigTx and small. -/
namespace Go.Proofs.YtdopbhahcpjjgaaDoor
open Go.RowKit

def bigT (t : TxD) : Bool := decide (260 < t.ins.length) || (decide (260 < t.outs.length) || t.outs.any (fun o => decide (20 < o.paths.length)))
theorem OutD.c1 (o : OutD) : o.cells[1]? = some (.slice o.pa o.paths.length o.pc) := rfl
theorem csmall_walk (o : OutD) (w : World) : Calls Tryd.prog 10 #[.agg o.cells.toArray] w fun e w' => e = .returned (.bool (decide (o.paths.length ≤ 6))) ∧ Below w.heap.size w w' := by
  obtain ⟨oc, hoc⟩ : ∃ oc, oc = o.cells := ⟨_, rfl⟩
  obtain ⟨N, hN⟩ : ∃ N, N = o.paths.length := ⟨_, rfl⟩
  obtain ⟨pa, hpa⟩ : ∃ pa, pa = o.pa := ⟨_, rfl⟩
  obtain ⟨pc, hpc⟩ : ∃ pc, pc = o.pc := ⟨_, rfl⟩
  have b1 := hid ((Below.refl w.heap.size w).alloc (Nat.le_refl _) (.cells oc.toArray 41))
  have c1 : (w.alloc (.cells oc.toArray 41)).cell? ⟨w.heap.size, 1, none⟩ = some (.slice pa N pc) := gen_cell (j := 1) (row_range (heap_alloc_new w _)) (by rw [hoc, hpa, hpc, hN]; rfl)
  obtain ⟨q, hq⟩ : ∃ q, q = decide (N ≤ 6) := ⟨_, rfl⟩
  have t1 : decide ((N : Int) ≤ 6) = q := by rw [hq, decide_eq_decide]; omega
  rw [← hoc, ← hN, ← hq]
  clear hoc hN hpa hpc hq
  go_enter Tryd.func10, Tryd.ntmps10
  go_wp2_with (fail)
  go_ret
  exact ⟨rfl, b1.out⟩
set_option maxRecDepth 100000 in
set_option maxHeartbeats 4000000 in
theorem cbig_walk (t : TxD) (w : World) (h : t.good w) : Calls Tryd.prog 7 #[.agg t.cells.toArray] w fun e w' => e = .returned (.bool (bigT t)) ∧ Below w.heap.size w w' := by
  obtain ⟨N, hN⟩ : ∃ N, N = t.ins.length := ⟨_, rfl⟩
  obtain ⟨M, hM⟩ : ∃ M, M = t.outs.length := ⟨_, rfl⟩
  obtain ⟨ia, hia⟩ : ∃ ia, ia = t.ia := ⟨_, rfl⟩
  obtain ⟨ic, hic⟩ : ∃ ic, ic = t.ic := ⟨_, rfl⟩
  obtain ⟨oa, hoa⟩ : ∃ oa, oa = t.oa := ⟨_, rfl⟩
  obtain ⟨oc, hoc⟩ : ∃ oc, oc = t.oc := ⟨_, rfl⟩
  have G := hid h
  have NN := hid (And.intro hN hM)
  have PO := hid (show Rd w 34 oa M oc (t.outs.flatMap OutD.cells) by rw [hoa, hoc, hM]; exact h.outs)
  have e : t.cells = [.slice ia N ic, .slice oa M oc] := by unfold TxD.cells; rw [hia, hic, hN, hoa, hoc, hM]
  rw [e]
  have b1 := (Below.refl w.heap.size w).alloc (Nat.le_refl _) (.cells #[.slice ia N ic, .slice oa M oc] 25)
  have k0 : (w.alloc (.cells #[.slice ia N ic, .slice oa M oc] 25)).cell? ⟨w.heap.size, 0, none⟩ = some (.slice ia N ic) := gen_cell (j := 0) (row_range (L := [.slice ia N ic, .slice oa M oc]) (heap_alloc_new w _)) rfl
  have k1 : (w.alloc (.cells #[.slice ia N ic, .slice oa M oc] 25)).cell? ⟨w.heap.size, 1, none⟩ = some (.slice oa M oc) := gen_cell (j := 1) (row_range (L := [.slice ia N ic, .slice oa M oc]) (heap_alloc_new w _)) rfl
  have B1 := hid b1
  clear h hN hM hia hic hoa hoc e b1
  go_enter Tryd.func7, Tryd.ntmps7
  go_upto_region 1 with (fail)
  generalize w.alloc (.cells #[.slice ia N ic, .slice oa M oc] 25) = w1 at *
  by_cases a1 : 260 < N
  · have t1 : decide ((260 : Int) < (N : Int)) = true := decide_eq_true (by omega)
    have t2 : decide (260 < N) = true := decide_eq_true a1
    have H := hid a1
    clear a1
    go_wp2_with (fail)
    go_ret
    refine ⟨?_, B1.out⟩
    unfold bigT
    rw [← NN.out.1, decide_eq_true H.out]
    rfl
  have t1 : decide ((260 : Int) < (N : Int)) = false := decide_eq_false (by omega)
  have t2 : decide (260 < N) = false := decide_eq_false a1
  by_cases a2 : 260 < M
  · have t3 : decide ((260 : Int) < (M : Int)) = true := decide_eq_true (by omega)
    have t4 : decide (260 < M) = true := decide_eq_true a2
    have H := hid (And.intro a1 a2)
    clear a1 a2
    go_wp2_with (fail)
    go_ret
    refine ⟨?_, B1.out⟩
    unfold bigT
    rw [← NN.out.1, ← NN.out.2, decide_eq_false H.out.1, decide_eq_true H.out.2]
    rfl
  have t3 : decide ((260 : Int) < (M : Int)) = false := decide_eq_false (by omega)
  have t4 : decide (260 < M) = false := decide_eq_false a2
  have HH := hid (And.intro a1 a2)
  clear a1 a2
  go_upto_region 4 with (fail)
  clear t1 t2 t3 t4 k0 k1
  go_loopw [18] (fun x18 wr => ∃ k : Nat, k ≤ M ∧ x18 = .int .i64 (k : Int) ∧ (t.outs.take k).any (fun o => decide (20 < o.paths.length)) = false ∧ Below w.heap.size w wr) (fun x18 _ => M - (intOf x18).toNat)
  case atStart => exact ⟨0, Nat.zero_le _, rfl, by simp, B1.out⟩
  case round =>
    obtain ⟨k, hk, rfl, hq, hb⟩ := hrel
    have BR := hid hb
    have AQ := hid hq
    clear hb hq
    by_cases hlk : k < M
    case neg =>
      obtain rfl : k = M := by omega
      have u1 : decide (k < k) = false := decide_eq_false (by omega)
      have u2 : decide ((k : Int) < (k : Int)) = false := decide_eq_false (by omega)
      clear hk hlk
      go_wp2_with (fail)
      go_ret
      refine ⟨?_, BR.out⟩
      have aq := AQ.out
      rw [NN.out.2, List.take_length] at aq
      unfold bigT
      rw [← NN.out.1, ← NN.out.2, decide_eq_false HH.out.1, decide_eq_false HH.out.2, aq]
      rfl
    have u1 : decide (k < M) = true := decide_eq_true hlk
    have u2 : decide ((k : Int) < (M : Int)) = true := decide_eq_true (by omega)
    have u6 : (k : Int) < (M : Int) := by omega
    have u7 : ¬ ((M : Int) ≤ (k : Int)) := by omega
    have u8' : ¬ (M ≤ k) := by omega
    obtain ⟨o, ho⟩ : ∃ o, t.outs[k]? = some o := ⟨_, List.getElem?_eq_getElem (by rw [← NN.out.2]; exact hlk)⟩
    have og := G.out.ook o (List.mem_of_getElem? ho)
    obtain ⟨b, off, rfl, rg⟩ := rd_row (fun z hz => OutD.len (G.out.ook z hz)) PO.out ho hlk
    have rgr := range_keep BR.out rg
    obtain ⟨ocs, hocs⟩ : ∃ ocs, ocs = o.cells := ⟨_, rfl⟩
    obtain ⟨P, hP⟩ : ∃ P, P = o.paths.length := ⟨_, rfl⟩
    obtain ⟨pa, hpa⟩ : ∃ pa, pa = o.pa := ⟨_, rfl⟩
    obtain ⟨pc, hpc⟩ : ∃ pc, pc = o.pc := ⟨_, rfl⟩
    have OL := hid (show ocs.length = 34 by rw [hocs]; exact OutD.len og)
    have OC1 := hid (show ocs[1]? = some (.slice pa P pc) by rw [hocs, hpa, hP, hpc]; rfl)
    rw [← hocs] at rgr
    have hiC := hid (show (Tryd.prog.info? 41).map (·.size) = some ocs.length by rw [OL.out]; kernel_rfl)
    have hiCa := hid (show (Tryd.prog.info? 41).map (·.size) = some ocs.toArray.size by rw [List.size_toArray, OL.out]; kernel_rfl)
    have hoC := hid (show 34 = ocs.toArray.size by rw [List.size_toArray, OL.out])
    have h16 := hid (show (ocs.toArray.all fun x => x.oneCell') = true by rw [hocs]; exact all_oneCell_toArray (OutD.one o))
    obtain ⟨k1n, hk1⟩ : ∃ k1n, k1n = k + 1 := ⟨_, rfl⟩
    have r4 : IntKind.i64.wrap ((k : Int) + 1) = (k1n : Int) := by have := HH.out.2; rw [IntKind.wrap_i64]; omega
    have I1 := hid (And.intro hk1 hlk)
    have HO := hid ho
    have HPP := hid hP
    clear hk hlk ho og rg hk1 hocs hP hpa hpc
    go_upto_region 6 with (first | with_reducible refine wpList_load_mid rfl _ _ rfl b (off + k * 34) rfl ocs _ rgr Tryd.underlying41 rfl hiC.out ?_ | (refine wpList_store_row rfl _ _ _ rfl wr.heap.size ocs.toArray rfl rfl _ _ (heap_alloc_new _ _) hiCa.out hoC.out h16.out ?_; refine laidW (F := fun w3 => wpList _ _ _ _ _ w3) ?_; intro w3 h3 b3))
    have c1 := gen_cell (j := 1) (row_range h3.out) OC1.out
    have B3 := hid (BR.out.trans (b3.out.mono BR.out.size))
    clear u1 u2 u6 u7 u8' rgr
    by_cases h20 : 20 < P
    · have v1 : decide ((20 : Int) < (P : Int)) = true := decide_eq_true (by omega)
      have v2 : decide (20 < P) = true := decide_eq_true h20
      have H := hid h20
      clear h20
      go_wp2_with (fail)
      go_ret
      refine ⟨?_, B3.out⟩
      have : t.outs.any (fun o => decide (20 < o.paths.length)) = true := List.any_eq_true.2 ⟨o, List.mem_of_getElem? HO.out, decide_eq_true (by rw [← HPP.out]; exact H.out)⟩
      unfold bigT
      rw [← NN.out.1, ← NN.out.2, decide_eq_false HH.out.1, decide_eq_false HH.out.2, this]
      rfl
    · have v1 : decide ((20 : Int) < (P : Int)) = false := decide_eq_false (by omega)
      have v2 : decide (20 < P) = false := decide_eq_false h20
      have H := hid (show (t.outs.take k1n).any (fun o => decide (20 < o.paths.length)) = false from by
        rw [I1.out.1, List.take_add_one, HO.out, List.any_append, AQ.out]
        simp only [Option.toList_some, List.any_cons, List.any_nil, Bool.or_false, Bool.false_or]
        exact decide_eq_false (by rw [← HPP.out]; exact h20))
      clear h20
      go_wp2_with (fail)
      go_roundw
      case rel => exact ⟨k1n, by have := I1.out; omega, rfl, H.out, B3.out⟩
      case measure => simp [intOf]; have := I1.out; omega
end Go.Proofs.YtdopbhahcpjjgaaDoor

/- The chain's copied: an output with paths of its own. -/
namespace Go.Proofs.YtdopbhahcpjjgaaDoor
open Go.RowKit

theorem zv_out {t : TypeId} {Z : Array Value} (h : (Tryd.prog.info? t).map (·.zero) = some (some (.agg Z))) (w : World) : (zeroValue t).run Tryd.prog w = .ok (.agg Z) w := by
  cases hi : Tryd.prog.info? t with
  | none => rw [hi] at h; cases h
  | some i =>
    rw [hi] at h
    simp only [Option.map_some, Option.some.injEq] at h
    simp [zeroValue, typeInfo, hi, h]
def OutD.at' (o : OutD) (a : Option Addr) (c : Nat) : OutD := ⟨o.coins, a, c, o.paths, o.anchor⟩
theorem OutD.at_cells (o : OutD) (a : Option Addr) (c : Nat) : o.cells.set 1 (.slice a o.paths.length c) = (o.at' a c).cells := rfl
theorem paths_one (o : OutD) : ∀ u ∈ o.paths.flatMap PathD.cells, u.oneCell' = true := fun u hu => by
  obtain ⟨p, _, hp⟩ := List.mem_flatMap.1 hu
  exact PathD.one p u hp
/-- a copy of an output: the same, its paths in a row of their own -/
def CopC (w : World) (o : OutD) (e : Ending) (w' : World) : Prop := ∃ a c, e = .returned (.agg (o.at' a c).cells.toArray) ∧ (o.at' a c).good w' ∧ w'.ownsRow w.heap.size 61 98 (.slice a o.paths.length c) o.paths.length (o.paths.flatMap PathD.cells) ∧ Below w.heap.size w w'
set_option maxRecDepth 100000 in
set_option maxHeartbeats 4000000 in
theorem ccopied_walk (o : OutD) (w : World) (h : o.good w) (hn : o.paths.length ≤ 4096) : Calls Tryd.prog 29 #[.agg o.cells.toArray] w (CopC w o) := by
  have G := hid h
  have HN := hid hn
  obtain ⟨oc, hoc⟩ : ∃ oc, oc = o.cells := ⟨_, rfl⟩
  have HOC := hid hoc
  have OL := hid (show oc.length = 34 by rw [hoc]; exact OutD.len h)
  obtain ⟨zo, hzo⟩ : ∃ zo : Array Value, zo = zOut := ⟨_, rfl⟩
  have ZH : ∀ w : World, (zeroValue 41).run Tryd.prog w = .ok (.agg zo) w := by rw [hzo]; exact zv_out (by kernel_rfl)
  have zl := hid (show zo.size = 34 by rw [hzo]; rfl)
  have A2 := alloc2p w (.cells oc.toArray 41) (.cells zo 41)
  have HA := hid A2.1
  have HR := hid A2.2.1
  have B1 := hid A2.2.2.2
  obtain ⟨N, hN⟩ : ∃ N, N = o.paths.length := ⟨_, rfl⟩
  obtain ⟨pa, hpa⟩ : ∃ pa, pa = o.pa := ⟨_, rfl⟩
  obtain ⟨pc, hpc⟩ : ∃ pc, pc = o.pc := ⟨_, rfl⟩
  have NN := hid hN
  have PP := hid (show Rd w 98 pa N pc (o.paths.flatMap PathD.cells) by rw [hpa, hpc, hN]; exact h.paths)
  have c1 := gen_cell (j := 1) (row_range A2.1) (v := .slice pa N pc) (by rw [hoc, hpa, hpc, hN]; rfl)
  rw [← hoc]
  clear h hn hzo A2 hoc hN hpa hpc
  go_enter Tryd.func29, Tryd.ntmps29
  go_upto_region 1 with (fail)
  generalize (w.alloc (.cells oc.toArray 41)).alloc (.cells zo 41) = w1 at *
  go_wp2_with (fail)
  refine (cloPath_walk pa N pc _ w1 (PP.out.below B1.out) (paths_one o) (by rw [NN.out]; exact HN.out)).mono ?_
  rintro e w2 ⟨a2, k2, rfl, o2, b2⟩
  have O2 := hid o2
  have B2 := hid (show Below w.heap.size w w2 from B1.out.trans (b2.mono B1.out.size))
  have HA2 := hid (heap_keep HA.out b2)
  have HR2 := hid (heap_keep HR.out b2)
  have c1b := cell_keep b2 c1
  have z1 : w2.frozen? ⟨w.heap.size, 1, none⟩ = false := frozen_of_row _ _ _ _ _ HA2.out
  have W1 := hid (show w.heap.size + 1 < w1.heap.size from (Array.getElem?_eq_some_iff.1 HR.out).1)
  obtain ⟨nc, hnc⟩ : ∃ nc, nc = (o.at' a2 k2).cells := ⟨_, rfl⟩
  have hS : (w2.setCell ⟨w.heap.size, 1, none⟩ (.slice a2 N k2)).heap[w.heap.size]? = some (.cells nc.toArray 41 (0, 0)) := by
    rw [heap_set _ HA2.out, hnc, ← OutD.at_cells, HOC.out, NN.out]
  have rS := row_range hS
  have NL := hid (show nc.length = 34 by rw [hnc]; have := OutD.len (G.out); exact this)
  have hiC := hid (show (Tryd.prog.info? 41).map (·.size) = some nc.length by rw [NL.out]; kernel_rfl)
  have hiCa := hid (show (Tryd.prog.info? 41).map (·.size) = some nc.toArray.size by rw [List.size_toArray, NL.out]; kernel_rfl)
  have hoC := hid (show zo.size = nc.toArray.size by rw [zl.out, List.size_toArray, NL.out])
  have h16 := hid (show (nc.toArray.all fun x => x.oneCell') = true by rw [hnc]; exact all_oneCell_toArray (OutD.one _))
  have FS := hid (show Far w.heap.size w2 (w2.setCell ⟨w.heap.size, 1, none⟩ (.slice a2 N k2)) from Far.set _)
  have hR3 := heap_far HR2.out FS.out (by omega)
  have HNC := hid hnc
  clear o2 b2 c1 hnc
  go_wp2_with (first | with_reducible refine wpList_load_mid rfl _ _ rfl w.heap.size 0 rfl nc _ rS Tryd.underlying41 rfl hiC.out ?_ | refine wpList_store_row rfl _ _ _ rfl (w.heap.size + 1) nc.toArray rfl rfl _ _ hR3 hiCa.out hoC.out h16.out ?_)
  refine bodyPost_ret (results_cellH rfl _ _ (w.heap.size + 1) _ nc.toArray _ _ rfl (setRow_heap _ _ _ _ _ _ hR3) Tryd.underlying41 rfl hiCa.out) rfl ?_
  obtain rfl : N = o.paths.length := NN.out
  have KF := ((Keep.far' FS.out).mono (fun i h => Or.inl h) (R := fun i => i = w.heap.size ∨ i = w.heap.size + 1)).trans ((Keep.far' (far_row (w2.setCell ⟨w.heap.size, 1, none⟩ (.slice a2 o.paths.length k2)) (w.heap.size + 1) nc.toArray)).mono (fun i h => Or.inr h))
  have w1l := W1.out
  have o2 := KF.own O2.out (fun g hg e => by
    have := (O2.out.lt _ hg).1
    omega)
  have o3 := own_mono o2 B1.out.size
  obtain ⟨a', c', e', hr⟩ := Rd.of_owns o3
  simp only [Value.slice.injEq] at e'
  obtain ⟨rfl, _, rfl⟩ := e'
  refine ⟨a2, k2, by rw [HNC.out], ⟨G.out.coins, G.out.anchor, hr, G.out.ok⟩, o3, B2.out.trans (KF.below (fun i e => by omega) B2.out.size)⟩
end Go.Proofs.YtdopbhahcpjjgaaDoor
