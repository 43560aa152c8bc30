/- A chain of secrets in memory; Put. -/
import Derived.Test.YtnfklnbdebcpiaaDoorLead
import Derived.Test.YtnfklnbdebcpiaaDoorTz
namespace Go.Proofs.YtnfklnbdebcpiaaDoor
open Go.RowKit

abbrev KM := Nat → Nat × List Nat
def kc (k : Nat × List Nat) : List Value := .int .u64 (k.1 : Int) :: nums .u8 k.2
theorem kc_len {k : Nat × List Nat} (h : H32 k.2) : (kc k).length = 33 := by simp [kc, h.1]
theorem kc_one (k : Nat × List Nat) : ∀ v ∈ kc k, v.oneCell' = true := by
  intro v hv
  rcases List.mem_cons.1 hv with rfl | hv
  · rfl
  · exact nums_oneCell _ _ v hv
theorem built_kc' (a0 a1 a2 a3 a4 a5 a6 a7 a8 a9 a10 a11 a12 a13 a14 a15 a16 a17 a18 a19 a20 a21 a22 a23 a24 a25 a26 a27 a28 a29 a30 a31 : Nat) (p : Nat) : Tryd.prog.built 44 [(0, .int .u64 (p : Int)), (1, .agg #[.int .u8 (a0 : Int), .int .u8 (a1 : Int), .int .u8 (a2 : Int), .int .u8 (a3 : Int), .int .u8 (a4 : Int), .int .u8 (a5 : Int), .int .u8 (a6 : Int), .int .u8 (a7 : Int), .int .u8 (a8 : Int), .int .u8 (a9 : Int), .int .u8 (a10 : Int), .int .u8 (a11 : Int), .int .u8 (a12 : Int), .int .u8 (a13 : Int), .int .u8 (a14 : Int), .int .u8 (a15 : Int), .int .u8 (a16 : Int), .int .u8 (a17 : Int), .int .u8 (a18 : Int), .int .u8 (a19 : Int), .int .u8 (a20 : Int), .int .u8 (a21 : Int), .int .u8 (a22 : Int), .int .u8 (a23 : Int), .int .u8 (a24 : Int), .int .u8 (a25 : Int), .int .u8 (a26 : Int), .int .u8 (a27 : Int), .int .u8 (a28 : Int), .int .u8 (a29 : Int), .int .u8 (a30 : Int), .int .u8 (a31 : Int)])] = some (Value.int .u64 (p : Int) :: (#[.int .u8 (a0 : Int), .int .u8 (a1 : Int), .int .u8 (a2 : Int), .int .u8 (a3 : Int), .int .u8 (a4 : Int), .int .u8 (a5 : Int), .int .u8 (a6 : Int), .int .u8 (a7 : Int), .int .u8 (a8 : Int), .int .u8 (a9 : Int), .int .u8 (a10 : Int), .int .u8 (a11 : Int), .int .u8 (a12 : Int), .int .u8 (a13 : Int), .int .u8 (a14 : Int), .int .u8 (a15 : Int), .int .u8 (a16 : Int), .int .u8 (a17 : Int), .int .u8 (a18 : Int), .int .u8 (a19 : Int), .int .u8 (a20 : Int), .int .u8 (a21 : Int), .int .u8 (a22 : Int), .int .u8 (a23 : Int), .int .u8 (a24 : Int), .int .u8 (a25 : Int), .int .u8 (a26 : Int), .int .u8 (a27 : Int), .int .u8 (a28 : Int), .int .u8 (a29 : Int), .int .u8 (a30 : Int), .int .u8 (a31 : Int)] : Array Value).toList).toArray := by kernel_rfl
theorem built_kc (p : Nat) (s : List Nat) (h : s.length = 32) : Tryd.prog.built 44 [(0, .int .u64 (p : Int)), (1, .agg (nums .u8 s).toArray)] = some (kc (p, s)).toArray := by
  match s, h with
  | [a0, a1, a2, a3, a4, a5, a6, a7, a8, a9, a10, a11, a12, a13, a14, a15, a16, a17, a18, a19, a20, a21, a22, a23, a24, a25, a26, a27, a28, a29, a30, a31], _ => exact built_kc' a0 a1 a2 a3 a4 a5 a6 a7 a8 a9 a10 a11 a12 a13 a14 a15 a16 a17 a18 a19 a20 a21 a22 a23 a24 a25 a26 a27 a28 a29 a30 a31 p
theorem run_build2k {P : Program} {w : World} {o : Oper} {ev : Operand → Value} {t : TypeId} {x0 x1 : Operand} {v0 v1 : Value} {cells : Array Value} (ho : o.op = .build t #[(0, x0), (1, x1)])
    (h0 : ev x0 = v0) (h1 : ev x1 = v1) (hb : P.built t [(0, v0), (1, v1)] = some cells) : (execOp ev o).run P w = .ok (.value (.agg cells)) w :=
  run_buildN ho (by simpa [h0, h1] using hb)
theorem infoHl' {xs : List Nat} (h : H32 xs) : (Tryd.prog.info? 23).map (·.size) = some (nums .u8 xs).length := by rw [nums_length, h.1]; kernel_rfl
theorem kc_tail {w : World} {g : Nat} {k : Nat × List Nat} (h : w.rangeAt g 0 (kc k)) : w.rangeAt g 1 (nums .u8 k.2) := fun j v hj => by
  have := h (j + 1) v (by rw [kc, List.getElem?_cons_succ]; exact hj)
  rwa [Nat.zero_add, Nat.add_comm] at this
theorem infoK {k : Nat × List Nat} (h : H32 k.2) : (Tryd.prog.info? 44).map (·.size) = some (kc k).length := by rw [kc_len h]; kernel_rfl
theorem infoKa {k : Nat × List Nat} (h : H32 k.2) : (Tryd.prog.info? 44).map (·.size) = some (kc k).toArray.size := by rw [List.size_toArray]; exact infoK h
def updK (K : KM) (i : Nat) (k : Nat × List Nat) : KM := fun j => if j = i then k else K j
structure ChC (cs : Array Value) (K : KM) (n : Nat) : Prop where
  sz : cs.size = 1618
  el : ∀ i, i < 49 → ∀ j v, (kc (K i))[j]? = some v → cs[i * 33 + j]? = some v
  ct : cs[1617]? = some (.int .u64 (n : Int))
  ok : ∀ i, i < 49 → (K i).1 < 281474976710656 ∧ H32 (K i).2
  le : n ≤ 281474976710656
theorem ChC.put {cs : Array Value} {K : KM} {n i p : Nat} {s : List Nat} (h : ChC cs K n) (hi : i < 49) (hp : p < 281474976710656) (hs : H32 s) : ChC (setMs cs (i * 33) (kc (p, s))) (updK K i (p, s)) n := by
  have hl : (kc (p, s)).length = 33 := kc_len hs
  have hsz := h.sz
  refine ⟨by rw [setMs_size]; exact h.sz, fun q hq j v hj => ?_, ?_, fun q hq => ?_, h.le⟩
  · rw [setMs_get _ _ _ _ (by omega)]
    unfold updK at hj
    by_cases hqi : q = i
    · subst hqi
      rw [if_pos rfl] at hj
      have := (List.getElem?_eq_some_iff.1 hj).1
      rw [if_pos (by omega), show q * 33 + j - q * 33 = j by omega]; exact hj
    · rw [if_neg hqi] at hj
      have := (List.getElem?_eq_some_iff.1 hj).1
      rw [kc_len (h.ok q hq).2] at this
      rw [if_neg (by omega)]; exact h.el q hq j v hj
  · rw [setMs_get _ _ _ _ (by omega), if_neg (by omega)]; exact h.ct
  · unfold updK
    split
    · exact ⟨hp, hs⟩
    · exact h.ok q hq
theorem ChC.count {cs : Array Value} {K : KM} {n m : Nat} (h : ChC cs K n) (hm : m ≤ 281474976710656) : ChC (cs.setIfInBounds 1617 (.int .u64 (m : Int))) K m := by
  have hsz := h.sz
  refine ⟨by rw [Array.size_setIfInBounds]; exact h.sz, fun q hq j v hj => ?_, ?_, h.ok, hm⟩
  · have := (List.getElem?_eq_some_iff.1 hj).1
    rw [kc_len (h.ok q hq).2] at this
    rw [Array.getElem?_setIfInBounds_ne (by omega)]; exact h.el q hq j v hj
  · rw [Array.getElem?_setIfInBounds_self_of_lt (by omega)]
theorem flat_get {f : Nat → List Value} {c : Nat} : ∀ (m : Nat), (∀ i, i < m → (f i).length = c) → ((List.range m).flatMap f).length = c * m ∧ ∀ i, i < m → ∀ j, j < c → ((List.range m).flatMap f)[c * i + j]? = (f i)[j]?
  | 0, _ => ⟨by simp, fun i h => by omega⟩
  | m + 1, h => by
    obtain ⟨h1, h2⟩ := flat_get m (fun i hi => h i (by omega))
    rw [List.range_succ, List.flatMap_append]
    have hm := h m (by omega)
    refine ⟨by rw [List.length_append, h1]; simp [hm, Nat.mul_succ], fun i hi j hj => ?_⟩
    by_cases him : i = m
    · subst him
      rw [List.getElem?_append_right (by omega), h1, show c * i + j - c * i = j by omega]
      simp
    · have : c * i + j < c * m := by
        have : c * i + c ≤ c * m := by rw [← Nat.mul_succ]; exact Nat.mul_le_mul_left _ (by omega)
        omega
      rw [List.getElem?_append_left (by omega)]
      exact h2 i (by omega) j hj
theorem ChC.ofList {cs : Array Value} {K : KM} {n : Nat} (hK : ∀ i, i < 49 → (K i).1 < 281474976710656 ∧ H32 (K i).2) (hn : n ≤ 281474976710656) (h : cs.toList = (List.range 49).flatMap (fun i => kc (K i)) ++ [.int .u64 (n : Int)]) : ChC cs K n := by
  obtain ⟨h1, h2⟩ := flat_get (f := fun i => kc (K i)) (c := 33) 49 (fun i hi => kc_len (hK i hi).2)
  have hg : ∀ j : Nat, cs[j]? = cs.toList[j]? := fun j => (Array.getElem?_toList ..).symm
  refine ⟨?_, fun i hi j v hj => ?_, ?_, hK, hn⟩
  · rw [← Array.length_toList, h, List.length_append, h1]; rfl
  · have := (List.getElem?_eq_some_iff.1 hj).1
    rw [kc_len (hK i hi).2] at this
    rw [hg, h, List.getElem?_append_left (by omega), show i * 33 + j = 33 * i + j by omega, h2 i hi j this]; exact hj
  · rw [hg, h, List.getElem?_append_right (by omega), h1]; rfl
def zero32 : List Nat := [0, 0, 0, 0, 0, 0, 0, 0, 0, 0, 0, 0, 0, 0, 0, 0, 0, 0, 0, 0, 0, 0, 0, 0, 0, 0, 0, 0, 0, 0, 0, 0]
theorem zero32_ok : H32 zero32 := ⟨rfl, by decide⟩
def noneK : KM := fun _ => (0, zero32)
/-- a chain of secrets -/
structure ChAt (w : World) (cb : Nat) (K : KM) (n : Nat) : Prop where
  st : ∃ cs : Array Value, w.heap[cb]? = some (.cells cs 47 (0, 0)) ∧ ChC cs K n
theorem ChAt.below {w w' : World} {cb n : Nat} {K : KM} (h : ChAt w cb K n) (hb : Below w.heap.size w w') : ChAt w' cb K n := by
  obtain ⟨cs, h1, h2⟩ := h.st
  exact ⟨cs, heap_keep h1 hb, h2⟩
theorem ChAt.ok {w : World} {cb n : Nat} {K : KM} (h : ChAt w cb K n) : ∀ i, i < 49 → (K i).1 < 281474976710656 ∧ H32 (K i).2 := by
  obtain ⟨cs, _, h2⟩ := h.st
  exact h2.ok
theorem ChAt.cast {w : World} {cb n m : Nat} {K : KM} (h : ChAt w cb K n) (e : n = m) : ChAt w cb K m := e ▸ h
theorem ChAt.far {w w' : World} {cb n H : Nat} {K : KM} (h : ChAt w cb K n) (hf : Far H w w') (hne : cb ≠ H) : ChAt w' cb K n := by
  obtain ⟨cs, h1, h2⟩ := h.st
  exact ⟨cs, heap_far h1 hf hne, h2⟩
theorem ChAt.lt {w : World} {cb n : Nat} {K : KM} (h : ChAt w cb K n) : cb < w.heap.size := by
  obtain ⟨cs, h1, _⟩ := h.st
  exact (Array.getElem?_eq_some_iff.1 h1).1
theorem ChAt.range {w : World} {cb n i : Nat} {K : KM} (h : ChAt w cb K n) (hi : i < 49) : w.rangeAt cb (i * 33) (kc (K i)) := by
  obtain ⟨cs, h1, h2⟩ := h.st
  intro j v hj
  rw [cell_of_row _ cb _ _ _ (0, 0) h1]
  exact h2.el i hi j v hj
theorem ChAt.count {w : World} {cb n : Nat} {K : KM} (h : ChAt w cb K n) : w.cell? ⟨cb, 1617, none⟩ = some (.int .u64 (n : Int)) := by
  obtain ⟨cs, h1, h2⟩ := h.st
  rw [cell_of_row _ cb _ _ _ (0, 0) h1]
  exact h2.ct
theorem ChAt.free {w : World} {cb n : Nat} {K : KM} (h : ChAt w cb K n) (j : Nat) : w.frozen? ⟨cb, j, none⟩ = false := by
  obtain ⟨cs, h1, _⟩ := h.st
  exact frozen_of_row _ cb _ _ _ h1
theorem ChAt.putAt {w : World} {cb n i p : Nat} {K : KM} {s : List Nat} (h : ChAt w cb K n) (hi : i < 49) (hp : p < 281474976710656) (hs : H32 s) : w.there cb (i * 33) 33 ∧ ChAt (w.setCells cb (i * 33) (kc (p, s))) cb (updK K i (p, s)) n := by
  obtain ⟨cs, h1, h2⟩ := h.st
  exact ⟨tag_there h1 (by have := h2.sz; omega), ⟨_, heap_setCells _ _ _ _ h1, h2.put hi hp hs⟩⟩
theorem ChAt.countAt {w : World} {cb n m : Nat} {K : KM} (h : ChAt w cb K n) (hm : m ≤ 281474976710656) : ChAt (w.setCell ⟨cb, 1617, none⟩ (.int .u64 (m : Int))) cb K m := by
  obtain ⟨cs, h1, h2⟩ := h.st
  exact ⟨_, heap_setCell_same w cb 1617 _ _ _ h1, h2.count hm⟩
/-- what is kept below fits -/
def okP (K : KM) (m : Nat) (s : List Nat) : Prop := ∀ i, i < m → leadN (K i).1 m s = (K i).2
def PutRes (w : World) (cb : Nat) (K : KM) (n : Nat) (s : List Nat) (e : Ending) (w' : World) : Prop :=
  (okP K (nz (281474976710655 - n)) s → e = .returned (.int .i64 0) ∧ ChAt w' cb (updK K (nz (281474976710655 - n)) (281474976710655 - n, s)) (n + 1)) ∧
  (¬ okP K (nz (281474976710655 - n)) s → e = .returned (.int .i64 31) ∧ ChAt w' cb K n) ∧ Far cb w w'
set_option maxRecDepth 100000 in
set_option maxHeartbeats 8000000 in
theorem put_walk (cb n : Nat) (Kp : KM) (s : List Nat) (hs : H32 s) (hn : n < 281474976710656) (w : World) (h : ChAt w cb Kp n) (ht : Tabs w) (h6 : Tab64 w) :
    Calls Tryd.prog 13 #[.pointer (some ⟨cb, 0, none⟩), hv s] w (PutRes w cb Kp n s) := by
  have HT := hid ht
  have H6 := hid h6
  have HS := hid hs
  have gP := heap_alloc_new w (.cells (nums .u8 s).toArray 23)
  have b0 := (Below.refl w.heap.size w).alloc (Nat.le_refl _) (.cells (nums .u8 s).toArray 23)
  have HC := hid h
  have hcw := h.lt
  have unH := Tryd.underlying23
  have hiS := hid (infoHl' hs)
  clear ht h6 h hs
  unfold hv
  go_enter Tryd.func13, Tryd.ntmps13
  go_upto_region 1 with (fail)
  generalize World.alloc w _ = w1 at *
  have VP := hid gP
  have B0 := hid b0
  have HC1 := hid (HC.out.below b0)
  have c1 := HC1.out.count
  have t1 : decide ((n : Int) > 281474976710655) = false := by rw [decide_eq_false_iff_not]; omega
  obtain ⟨p, hp⟩ : ∃ p : Nat, p = 281474976710655 - n := ⟨_, rfl⟩
  have ep : 281474976710655 - (n : Int) = (p : Int) := by omega
  have hp48 : p < 281474976710656 := by omega
  have HPN := hid hp
  clear gP b0 hp
  generalize hP : w.heap.size = P at *
  have hPw1 : P ≤ w1.heap.size := by have := (Array.getElem?_eq_some_iff.1 VP.out).1; omega
  go_wp2_with fail
  refine (tz_walk p (by omega) _ (H6.out.below (hP ▸ B0.out))).mono ?_
  rintro e w2 ⟨rfl, rfl⟩
  obtain ⟨m, hm⟩ : ∃ m, m = nz p := ⟨_, rfl⟩
  have hmm := nz_min hp48
  have hm48 := nz_le p
  rw [← hm] at hmm hm48
  have hmn : (if (48 : Int) < ((Lib.ctz 64 p : Nat) : Int) then (48 : Int) else ((Lib.ctz 64 p : Nat) : Int)) = (m : Int) := by split <;> omega
  have HM := hid hm
  clear hmm hm
  go_upto_region 8 with (fail)
  clear hmn
  go_loopw [25] (fun x25 wr => ∃ i : Nat, i ≤ m ∧ x25 = .int .i64 i ∧ Hid (∀ j, j < i → leadN (Kp j).1 m s = (Kp j).2) ∧ Below w1.heap.size w1 wr) (fun x25 _ => m - (intOf x25).toNat)
  case atStart => exact ⟨0, by omega, rfl, hid (fun j hj => by omega), Below.refl _ _⟩
  case round =>
    obtain ⟨i, hi, rfl, hok, hb⟩ := hrel
    have HB := hid hb
    have HBP := hid (B0.out.trans (hb.mono hPw1))
    clear hb
    by_cases hlt : i < m
    · have hi49 : (i : Int) < 49 := by omega
      have hKi := HC.out.ok i (by omega)
      have hz33 : ∀ z : Array Value, z.size = 33 → z.size = (kc (Kp i)).toArray.size := fun z hz => by rw [hz, List.size_toArray, kc_len hKi.2]
      have hiK := hid (infoK hKi.2)
      have hiKa := hid (infoKa hKi.2)
      have hoK := hid (all_oneCell_toArray (kc_one (Kp i)))
      have HCr := hid (HC1.out.below HB.out)
      have rg := HCr.out.range (i := i) (by omega)
      go_upto_region 11 with (first | (refine wpList_load_mid rfl _ _ rfl cb (i * 33) rfl (kc (Kp i)) _ rg Tryd.underlying44 rfl hiK.out ?_) | (refine wpList_store_row rfl _ _ _ rfl wr.heap.size (kc (Kp i)).toArray rfl rfl _ _ (heap_alloc_new wr _) hiKa.out (hz33 _ rfl) hoK.out ?_))
      have LA := fun z => laid wr z (kc (Kp i)).toArray 44
      generalize hW : World.setRow _ _ _ = wb
      replace LA := hid (hW ▸ LA _)
      have HBb := hid (HB.out.trans (LA.out.2.mono HB.out.size))
      have HBbP := hid (B0.out.trans (HBb.out.mono hPw1))
      have RV1 := hid (show wb.rangeAt wr.heap.size 1 (nums .u8 (Kp i).2) from kc_tail (row_range LA.out.1))
      have CV := hid (show wb.cell? ⟨wr.heap.size, 0, none⟩ = some (.int .u64 ((Kp i).1 : Int)) by rw [cell_of_row _ _ 0 _ _ (0, 0) LA.out.1]; rfl)
      have RP := hid (row_range (heap_keep (heap_keep VP.out HB.out) LA.out.2))
      have HTb := hid (HT.out.below (hP ▸ HBbP.out))
      have hiKi := hid (infoHl' hKi.2)
      clear hW LA rg hz33
      generalize wr.heap.size = V at *
      have e1 : ∀ (op : BinOp) (x y : Operand) (w : World), (eqGuard op 23 x y (hv (leadN (Kp i).1 m s)) (.agg (nums .u8 (Kp i).2).toArray)).run Tryd.prog w = .ok () w := guard_hv (leadN (Kp i).1 m s) (Kp i).2
      have hlo : H32 (leadN (Kp i).1 m s) := leadN_ok HS.out
      have e2 : ∀ w, (binOp .neq 23 (hv (leadN (Kp i).1 m s)) (.agg (nums .u8 (Kp i).2).toArray)).run Tryd.prog w = .ok (.bool (!decide (leadN (Kp i).1 m s = (Kp i).2))) w := fun w => neq_hv (w := w) hlo.1 hKi.2.1 hlo.2 hKi.2.2
      by_cases heq : leadN (Kp i).1 m s = (Kp i).2
      · rw [decide_eq_true heq] at e2
        have hok' := hid (show ∀ j, j < i + 1 → leadN (Kp j).1 m s = (Kp j).2 from fun j hj => by
          by_cases hji : j = i
          · subst hji; exact heq
          · exact hok.out j (by omega))
        clear heq hlo
        refine wp_region_held_drew (S := fun w' => Below wb.heap.size wb w') (by kernel_rfl) ((Below.refl _ _).drew) (fun hHeld => ?_)
        try simp only [List.size_toArray, List.length_cons, List.length_nil, Nat.reduceAdd, Array.replicate_succ, Array.replicate_zero, List.push_toArray, List.nil_append, List.cons_append]
        refine' wpAnyH_take (i := 0) (oi := { dst := some 34, op := Op.load 23 (Operand.tmp 3), type := 23, pos := "secrets.go:59", after := #[], guard := none }) (v := _) rfl (by kernel_rfl) (by kernel_rfl) (by kernel_rfl) (fun _ _ _ h => h) (yieldsIf_load_mid (by rfl) _ _ rfl P 0 rfl (nums .u8 s) _ (fun _ h => range_keep h RP.out) unH rfl hiS.out) hHeld ?_
        (try simp only [Act.put, List.setIfInBounds_toArray, List.set_cons_zero, List.set_cons_succ])
        refine wpAnyH_take (i := 1) (oi := { dst := some 35, op := Op.fieldAddr 44 (Operand.tmp 8) 0, type := 0, pos := "secrets.go:59", after := #[], guard := none }) (v := ?v1001) rfl (by kernel_rfl) (by kernel_rfl) (by kernel_rfl) (fun _ _ _ h => h) (Or.inl ⟨by rfl, ?hy1001⟩) hHeld ?_
        case hy1001 => (intro w hSw; (try dsimp only at hSw); go_simp; (try with_reducible rfl))
        (try simp only [Act.put, List.setIfInBounds_toArray, List.set_cons_zero, List.set_cons_succ])
        refine wpAnyH_take (i := 2) (oi := { dst := some 36, op := Op.load 24 (Operand.tmp 35), type := 24, pos := "secrets.go:59", after := #[{ on := 1, ground := Ground.data }], guard := none }) (v := .int .u64 ((Kp i).1 : Int)) rfl (by kernel_rfl) (by kernel_rfl) (by kernel_rfl) (fun _ _ _ h => h) (Or.inl ⟨by rfl, fun w h => by have hc := cell_keep h CV.out; go_simp⟩) hHeld ?_
        (try simp only [Act.put, List.setIfInBounds_toArray, List.set_cons_zero, List.set_cons_succ])
        refine wpAnyH_take (i := 3) (oi := { dst := some 37, op := Op.move (Operand.tmp 6), type := 3, pos := "secrets.go:59", after := #[], guard := none }) (v := ?v1002) rfl (by kernel_rfl) (by kernel_rfl) (by kernel_rfl) (fun _ _ _ h => h) (Or.inl ⟨by rfl, ?hy1002⟩) hHeld ?_
        case hy1002 => (intro w hSw; (try dsimp only at hSw); go_simp; (try with_reducible rfl))
        (try simp only [Act.put, List.setIfInBounds_toArray, List.set_cons_zero, List.set_cons_succ])
        refine wpAnyH_take (i := 5) (oi := { dst := some 39, op := Op.fieldAddr 44 (Operand.tmp 8) 1, type := 0, pos := "secrets.go:59", after := #[], guard := none }) (v := ?v1003) rfl (by kernel_rfl) (by kernel_rfl) (by kernel_rfl) (fun _ _ _ h => h) (Or.inl ⟨by rfl, ?hy1003⟩) hHeld ?_
        case hy1003 => (intro w hSw; (try dsimp only at hSw); go_simp; (try with_reducible rfl))
        (try simp only [Act.put, List.setIfInBounds_toArray, List.set_cons_zero, List.set_cons_succ])
        refine' wpAnyH_take (i := 6) (oi := { dst := some 40, op := Op.load 23 (Operand.tmp 39), type := 23, pos := "secrets.go:59", after := #[{ on := 5, ground := Ground.data }], guard := none }) (v := _) rfl (by kernel_rfl) (by kernel_rfl) (by kernel_rfl) (fun _ _ _ h => h) (yieldsIf_load_mid (by rfl) _ _ rfl V 1 rfl (nums .u8 (Kp i).2) _ (fun _ h => range_keep h RV1.out) unH rfl hiKi.out) hHeld ?_
        (try simp only [Act.put, List.setIfInBounds_toArray, List.set_cons_zero, List.set_cons_succ])
        refine wpAnyH_ready (rs := [4]) (by kernel_rfl) (by simp) ?_
        refine AllReadyH.cons (o := { dst := some 38, op := Op.call { callee := Callee.value (Operand.func 20), args := #[Operand.tmp 34, Operand.tmp 36, Operand.tmp 37], argTypes := #[23, 24, 3] }, type := 23, pos := "secrets.go:59", after := #[{ on := 0, ground := Ground.data }, { on := 2, ground := Ground.data }, { on := 3, ground := Ground.data }], guard := none }) rfl (fun K hK => ?_) ?_
        go_simp; refine (derive_walk s (Kp i).1 m HS.out (by omega) hm48 _ (HTb.out.below hHeld)).mono ?_; rintro e wo ⟨rfl, bo⟩; have BO := hid bo; clear bo
        refine hK.out _ _ (by first | exact hHeld.trans (BO.out.mono hHeld.size) | exact BO.out) (fun hHeld => ?_)
        clear hK K
        (try simp only [List.setIfInBounds_toArray, List.set_cons_zero, List.set_cons_succ])
        refine wpAnyH_take (i := 7) (oi := { dst := some 41, op := Op.binOp BinOp.neq 23 (Operand.tmp 38) (Operand.tmp 40) 23, type := 4, pos := "secrets.go:59", after := #[{ on := 4, ground := Ground.data }, { on := 6, ground := Ground.data }], guard := none }) (v := ?v1004) rfl (by kernel_rfl) (by kernel_rfl) (by kernel_rfl) (fun _ _ _ h => h) (Or.inl ⟨by rfl, ?hy1004⟩) hHeld ?_
        case hy1004 => (intro w hSw; (try dsimp only at hSw); go_simp; (try with_reducible rfl))
        (try simp only [Act.put, List.setIfInBounds_toArray, List.set_cons_zero, List.set_cons_succ])
        refine wpAnyH_done (by kernel_rfl) ?_ _
        rotate_left
        exact AllReadyH.nil
        all_goals
          have BF := hid (HBb.out.trans (hHeld.mono HBb.out.size))
          clear e1 e2
          go_wp2
          go_roundw
          case rel => exact ⟨i + 1, by omega, by go_num, hok', BF.out⟩
          case measure => simp [intOf]; omega
      · rw [decide_eq_false heq] at e2
        have hbad := hid (show ¬ okP Kp m s from fun h => heq (h i hlt))
        clear heq hlo
        refine wp_region_held_drew (S := fun w' => Below wb.heap.size wb w') (by kernel_rfl) ((Below.refl _ _).drew) (fun hHeld => ?_)
        try simp only [List.size_toArray, List.length_cons, List.length_nil, Nat.reduceAdd, Array.replicate_succ, Array.replicate_zero, List.push_toArray, List.nil_append, List.cons_append]
        refine' wpAnyH_take (i := 0) (oi := { dst := some 34, op := Op.load 23 (Operand.tmp 3), type := 23, pos := "secrets.go:59", after := #[], guard := none }) (v := _) rfl (by kernel_rfl) (by kernel_rfl) (by kernel_rfl) (fun _ _ _ h => h) (yieldsIf_load_mid (by rfl) _ _ rfl P 0 rfl (nums .u8 s) _ (fun _ h => range_keep h RP.out) unH rfl hiS.out) hHeld ?_
        (try simp only [Act.put, List.setIfInBounds_toArray, List.set_cons_zero, List.set_cons_succ])
        refine wpAnyH_take (i := 1) (oi := { dst := some 35, op := Op.fieldAddr 44 (Operand.tmp 8) 0, type := 0, pos := "secrets.go:59", after := #[], guard := none }) (v := ?v2001) rfl (by kernel_rfl) (by kernel_rfl) (by kernel_rfl) (fun _ _ _ h => h) (Or.inl ⟨by rfl, ?hy2001⟩) hHeld ?_
        case hy2001 => (intro w hSw; (try dsimp only at hSw); go_simp; (try with_reducible rfl))
        (try simp only [Act.put, List.setIfInBounds_toArray, List.set_cons_zero, List.set_cons_succ])
        refine wpAnyH_take (i := 2) (oi := { dst := some 36, op := Op.load 24 (Operand.tmp 35), type := 24, pos := "secrets.go:59", after := #[{ on := 1, ground := Ground.data }], guard := none }) (v := .int .u64 ((Kp i).1 : Int)) rfl (by kernel_rfl) (by kernel_rfl) (by kernel_rfl) (fun _ _ _ h => h) (Or.inl ⟨by rfl, fun w h => by have hc := cell_keep h CV.out; go_simp⟩) hHeld ?_
        (try simp only [Act.put, List.setIfInBounds_toArray, List.set_cons_zero, List.set_cons_succ])
        refine wpAnyH_take (i := 3) (oi := { dst := some 37, op := Op.move (Operand.tmp 6), type := 3, pos := "secrets.go:59", after := #[], guard := none }) (v := ?v2002) rfl (by kernel_rfl) (by kernel_rfl) (by kernel_rfl) (fun _ _ _ h => h) (Or.inl ⟨by rfl, ?hy2002⟩) hHeld ?_
        case hy2002 => (intro w hSw; (try dsimp only at hSw); go_simp; (try with_reducible rfl))
        (try simp only [Act.put, List.setIfInBounds_toArray, List.set_cons_zero, List.set_cons_succ])
        refine wpAnyH_take (i := 5) (oi := { dst := some 39, op := Op.fieldAddr 44 (Operand.tmp 8) 1, type := 0, pos := "secrets.go:59", after := #[], guard := none }) (v := ?v2003) rfl (by kernel_rfl) (by kernel_rfl) (by kernel_rfl) (fun _ _ _ h => h) (Or.inl ⟨by rfl, ?hy2003⟩) hHeld ?_
        case hy2003 => (intro w hSw; (try dsimp only at hSw); go_simp; (try with_reducible rfl))
        (try simp only [Act.put, List.setIfInBounds_toArray, List.set_cons_zero, List.set_cons_succ])
        refine' wpAnyH_take (i := 6) (oi := { dst := some 40, op := Op.load 23 (Operand.tmp 39), type := 23, pos := "secrets.go:59", after := #[{ on := 5, ground := Ground.data }], guard := none }) (v := _) rfl (by kernel_rfl) (by kernel_rfl) (by kernel_rfl) (fun _ _ _ h => h) (yieldsIf_load_mid (by rfl) _ _ rfl V 1 rfl (nums .u8 (Kp i).2) _ (fun _ h => range_keep h RV1.out) unH rfl hiKi.out) hHeld ?_
        (try simp only [Act.put, List.setIfInBounds_toArray, List.set_cons_zero, List.set_cons_succ])
        refine wpAnyH_ready (rs := [4]) (by kernel_rfl) (by simp) ?_
        refine AllReadyH.cons (o := { dst := some 38, op := Op.call { callee := Callee.value (Operand.func 20), args := #[Operand.tmp 34, Operand.tmp 36, Operand.tmp 37], argTypes := #[23, 24, 3] }, type := 23, pos := "secrets.go:59", after := #[{ on := 0, ground := Ground.data }, { on := 2, ground := Ground.data }, { on := 3, ground := Ground.data }], guard := none }) rfl (fun K hK => ?_) ?_
        go_simp; refine (derive_walk s (Kp i).1 m HS.out (by omega) hm48 _ (HTb.out.below hHeld)).mono ?_; rintro e wo ⟨rfl, bo⟩; have BO := hid bo; clear bo
        refine hK.out _ _ (by first | exact hHeld.trans (BO.out.mono hHeld.size) | exact BO.out) (fun hHeld => ?_)
        clear hK K
        (try simp only [List.setIfInBounds_toArray, List.set_cons_zero, List.set_cons_succ])
        refine wpAnyH_take (i := 7) (oi := { dst := some 41, op := Op.binOp BinOp.neq 23 (Operand.tmp 38) (Operand.tmp 40) 23, type := 4, pos := "secrets.go:59", after := #[{ on := 4, ground := Ground.data }, { on := 6, ground := Ground.data }], guard := none }) (v := ?v2004) rfl (by kernel_rfl) (by kernel_rfl) (by kernel_rfl) (fun _ _ _ h => h) (Or.inl ⟨by rfl, ?hy2004⟩) hHeld ?_
        case hy2004 => (intro w hSw; (try dsimp only at hSw); go_simp; (try with_reducible rfl))
        (try simp only [Act.put, List.setIfInBounds_toArray, List.set_cons_zero, List.set_cons_succ])
        refine wpAnyH_done (by kernel_rfl) ?_ _
        rotate_left
        exact AllReadyH.nil
        all_goals
          have BF := hid (HBb.out.trans (hHeld.mono HBb.out.size))
          clear e1 e2
          go_wp2
          go_ret
          rw [HM.out, HPN.out] at hbad
          have BFP := B0.out.trans (BF.out.mono hPw1)
          exact ⟨fun h => absurd h hbad.out, fun _ => ⟨rfl, HC.out.below (hP ▸ BFP)⟩, Far.of (hP ▸ BFP)⟩
    · have him : i = m := by omega
      have hgood := hid (show okP Kp m s from fun j hj => hok.out j (by omega))
      have VPr := hid (heap_keep VP.out HB.out)
      have HCr := hid (HC1.out.below HB.out)
      have hm49 : (m : Int) < 49 := by omega
      have PA := hid ((HCr.out.below ((Below.refl _ _).drew)).putAt (i := m) (p := p) (by omega) hp48 HS.out)
      have hwr := HB.out.size
      obtain rfl : m = i := him.symm
      go_upto_region 14 with (fail)
      refine wp_region_held_drew (S := fun w' => Far cb wr w') (by kernel_rfl) (Far.of ((Below.refl _ _).drew)) (fun hHeld => ?_)
      try simp only [List.size_toArray, List.length_cons, List.length_nil, Nat.reduceAdd, Array.replicate_succ, Array.replicate_zero, List.push_toArray, List.nil_append, List.cons_append]
      refine wpAnyH_take (i := 0) (oi := { dst := some 43, op := Op.move (Operand.tmp 0), type := 42, pos := "secrets.go:63", after := #[], guard := none }) (v := ?v3001) rfl (by kernel_rfl) (by kernel_rfl) (by kernel_rfl) (fun _ _ _ h => h) (Or.inl ⟨by rfl, ?hy3001⟩) hHeld ?_
      case hy3001 => (intro w hSw; (try dsimp only at hSw); go_simp; (try with_reducible rfl))
      (try simp only [Act.put, List.setIfInBounds_toArray, List.set_cons_zero, List.set_cons_succ])
      refine wpAnyH_take (i := 1) (oi := { dst := some 44, op := Op.move (Operand.tmp 6), type := 3, pos := "secrets.go:63", after := #[], guard := none }) (v := ?v3002) rfl (by kernel_rfl) (by kernel_rfl) (by kernel_rfl) (fun _ _ _ h => h) (Or.inl ⟨by rfl, ?hy3002⟩) hHeld ?_
      case hy3002 => (intro w hSw; (try dsimp only at hSw); go_simp; (try with_reducible rfl))
      (try simp only [Act.put, List.setIfInBounds_toArray, List.set_cons_zero, List.set_cons_succ])
      refine wpAnyH_take (i := 2) (oi := { dst := some 45, op := Op.move (Operand.tmp 5), type := 24, pos := "secrets.go:63", after := #[], guard := none }) (v := ?v3003) rfl (by kernel_rfl) (by kernel_rfl) (by kernel_rfl) (fun _ _ _ h => h) (Or.inl ⟨by rfl, ?hy3003⟩) hHeld ?_
      case hy3003 => (intro w hSw; (try dsimp only at hSw); go_simp; (try with_reducible rfl))
      (try simp only [Act.put, List.setIfInBounds_toArray, List.set_cons_zero, List.set_cons_succ])
      refine' wpAnyH_take (i := 3) (oi := { dst := some 46, op := Op.load 23 (Operand.tmp 3), type := 23, pos := "secrets.go:63", after := #[], guard := none }) (v := _) rfl (by kernel_rfl) (by kernel_rfl) (by kernel_rfl) (fun _ _ _ h => h) (yieldsIf_load_mid (by rfl) _ _ rfl P 0 rfl (nums .u8 s) _ (fun _ h => row_range (heap_far VPr.out h (by omega))) unH rfl hiS.out) hHeld ?_
      (try simp only [Act.put, List.setIfInBounds_toArray, List.set_cons_zero, List.set_cons_succ])
      refine wpAnyH_take (i := 4) (oi := { dst := some 47, op := Op.build 44 #[(0, Operand.tmp 45), (1, Operand.tmp 46)], type := 44, pos := "secrets.go:63", after := #[{ on := 2, ground := Ground.data }, { on := 3, ground := Ground.data }], guard := none }) (v := .agg (kc (p, s)).toArray) rfl (by kernel_rfl) (by kernel_rfl) (by kernel_rfl) (fun _ _ _ h => h) (Or.inl ⟨by rfl, fun w _ => run_build2k rfl rfl rfl (built_kc p s HS.out.1)⟩) hHeld ?_
      (try simp only [Act.put, List.setIfInBounds_toArray, List.set_cons_zero, List.set_cons_succ])
      refine wpAnyH_take (i := 5) (oi := { dst := some 48, op := Op.nilCheck (Operand.tmp 43), type := 0, pos := "secrets.go:63", after := #[{ on := 0, ground := Ground.data }], guard := none }) (v := ?v3004) rfl (by kernel_rfl) (by kernel_rfl) (by kernel_rfl) (fun _ _ _ h => h) (Or.inl ⟨by rfl, ?hy3004⟩) hHeld ?_
      case hy3004 => (intro w hSw; (try dsimp only at hSw); go_simp; (try with_reducible rfl))
      (try simp only [Act.put, List.setIfInBounds_toArray, List.set_cons_zero, List.set_cons_succ])
      refine wpAnyH_take (i := 6) (oi := { dst := some 49, op := Op.fieldAddr 47 (Operand.tmp 48) 0, type := 0, pos := "secrets.go:63", after := #[{ on := 5, ground := Ground.data }], guard := none }) (v := ?v3005) rfl (by kernel_rfl) (by kernel_rfl) (by kernel_rfl) (fun _ _ _ h => h) (Or.inl ⟨by rfl, ?hy3005⟩) hHeld ?_
      case hy3005 => (intro w hSw; (try dsimp only at hSw); go_simp; (try with_reducible rfl))
      (try simp only [Act.put, List.setIfInBounds_toArray, List.set_cons_zero, List.set_cons_succ])
      refine wpAnyH_take (i := 7) (oi := { dst := some 50, op := Op.indexAddr 45 (Operand.tmp 49) (Operand.tmp 44), type := 0, pos := "secrets.go:63", after := #[{ on := 6, ground := Ground.data }, { on := 1, ground := Ground.data }, { on := 0, ground := Ground.phase }, { on := 1, ground := Ground.phase }, { on := 2, ground := Ground.phase }, { on := 3, ground := Ground.phase }, { on := 4, ground := Ground.phase }], guard := none }) (v := ?v3006) rfl (by kernel_rfl) (by kernel_rfl) (by kernel_rfl) (fun _ _ _ h => h) (Or.inl ⟨by rfl, ?hy3006⟩) hHeld ?_
      case hy3006 => (intro w hSw; (try dsimp only at hSw); go_simp; (try with_reducible rfl))
      (try simp only [Act.put, List.setIfInBounds_toArray, List.set_cons_zero, List.set_cons_succ])
      refine wpAnyH_ready (rs := [8]) (by kernel_rfl) (by simp) ?_
      refine AllReadyH.cons (o := { dst := none, op := Op.store 44 (Operand.tmp 50) (Operand.tmp 47), type := 0, pos := "secrets.go:63", after := #[{ on := 7, ground := Ground.data }, { on := 4, ground := Ground.data }, { on := 0, ground := Ground.phase }, { on := 1, ground := Ground.phase }, { on := 2, ground := Ground.phase }, { on := 3, ground := Ground.phase }, { on := 4, ground := Ground.phase }], guard := none }) rfl (fun K hK => ?_) ?_
      rw [if_pos (by rfl)]; refine wp_store_mid _ _ _ rfl cb (m * 33) (kc (p, s)).toArray rfl rfl (by rw [List.size_toArray, kc_len HS.out]; exact PA.out.1) (infoKa HS.out) (all_oneCell_toArray (kc_one _)) ?_
      refine hK.out _ _ (hHeld.trans (far_setCells _ _ _)) (fun hHeld => ?_)
      clear hK K
      (try simp only [List.setIfInBounds_toArray, List.set_cons_zero, List.set_cons_succ])
      refine wpAnyH_done (by kernel_rfl) ?_ _
      rotate_left
      exact AllReadyH.nil
      all_goals
        have HC8 := hid PA.out.2
        have F8 := hid hHeld
        clear hHeld
        generalize World.setCells _ cb _ _ = w8 at *
        have c8 := HC8.out.count
        have f8 := HC8.out.free 1617
        obtain ⟨n1, hn1⟩ : ∃ n1 : Nat, n1 = n + 1 := ⟨_, rfl⟩
        have e1 : (n : Int) + 1 = (n1 : Int) := by omega
        have hn1b : n1 < 18446744073709551616 := by omega
        have HN := hid hn1
        have HC9 := hid (HC8.out.countAt (m := n1) (by omega))
        have F9 := hid (((Far.of (hP ▸ HBP.out)).trans F8.out).trans (Far.set (H := cb) (j := 1617) (w := w8) (.int .u64 (n1 : Int))))
        clear hn1
        go_wp2
        go_ret
        rw [HM.out, HPN.out] at hgood
        rw [HM.out, HPN.out] at HC9
        exact ⟨fun _ => ⟨rfl, HC9.out.cast HN.out⟩, fun h => absurd hgood.out h, F9.out⟩
end Go.Proofs.YtnfklnbdebcpiaaDoor
