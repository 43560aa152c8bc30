/- The law's lock. -/
import Derived.Test.YthccjefhlmngbaaDoorEg2
namespace Go.Proofs.YthccjefhlmngbaaDoor
open Go.RowKit

theorem alloc_part (w : World) (c : Array Value) (t : TypeId) {v : Value} (h : c[0]? = some v := by rfl) : (w.alloc (.cells c t)).cell? ⟨w.heap.size, 0, none⟩ = some v ∧ Below w.heap.size w (w.alloc (.cells c t)) :=
  ⟨by rw [cell_of_row _ _ _ _ t (0, 0) (heap_alloc_new w _)]; exact h, (Below.refl _ _).alloc (Nat.le_refl _) _⟩
/-- a digest that begins so -/
def hbx (v : Nat) : List Nat := [v, 0, 0, 0, 0, 0, 0, 0, 0, 0, 0, 0, 0, 0, 0, 0, 0, 0, 0, 0, 0, 0, 0, 0, 0, 0, 0, 0, 0, 0, 0, 0]
theorem hbx_ok {v : Nat} (h : v < 256) : EH.ok (hbx v) := ⟨rfl, by intro d hd; simp [hbx] at hd; omega⟩
def lockOf (v : Nat) : List Nat := sha (hbx v)
theorem lockOf_ok (v : Nat) : EH.ok (lockOf v) := ⟨sha_len _, sha_lt _⟩
set_option maxRecDepth 100000 in
set_option maxHeartbeats 4000000 in
theorem lock_walk (v : Nat) (hv : v < 256) (w : World) (ht : Tabs w) : Calls Tryd.prog 11 #[.int .u8 (v : Int)] w fun e w' => e = .returned (.agg (nums .u8 (lockOf v)).toArray) ∧ Below w.heap.size w w' := by
  have B1 := (Below.refl w.heap.size w).alloc (Nat.le_refl _) (.cells (nums .u8 hz32).toArray 27)
  have A1 := hid (heap_alloc_new w (.cells (nums .u8 hz32).toArray 27))
  have HB := hid B1
  have HT := hid ht
  have hiv := hid (show (Tryd.prog.info? 27).map (·.size) = some (nums .u8 (hbx v)).toArray.size by kernel_rfl)
  have hov := hid (all_oneCell_toArray (nums_oneCell .u8 (hbx v)))
  have hil := hid (show (Tryd.prog.info? 27).map (·.size) = some (nums .u8 (lockOf v)).toArray.size by rw [List.size_toArray, nums_length, (lockOf_ok v).1]; exact infoH)
  have hol := hid (all_oneCell_toArray (nums_oneCell .u8 (lockOf v)))
  have SW := fun (G K : Nat) (wx : World) (hc : wx.cell? ⟨G, 0, none⟩ = some (.slice (some ⟨K, 0, none⟩) 32 32)) (hx : Sl .u8 wx (some ⟨K, 0, none⟩) 32 32 (hbx v)) (htx : Tabs wx) => hid (sum1_walk G (some ⟨K, 0, none⟩) 32 32 (hbx v) wx hc hx (hbx_ok hv).2 (by decide) htx)
  unfold SumRes at SW
  have LK : sha (hbx v) = lockOf v := rfl
  rw [LK] at SW
  unfold Go.Proofs.YthccjefhlmngbaaDoor.hv at SW
  have HO := hid (lockOf_ok v)
  generalize lockOf v = lk at *
  clear B1 ht LK
  go_enter Tryd.func11, Tryd.ntmps11
  go_upto_region 1 with (fail)
  show Code.wp _ _ _ _ (w.alloc (.cells (nums .u8 hz32).toArray 27))
  generalize hw1 : w.alloc (.cells (nums .u8 hz32).toArray 27) = w1 at *
  obtain ⟨R, hR⟩ : ∃ R, R = w.heap.size := ⟨_, rfl⟩
  rw [← hR] at A1 ⊢
  have HR := hid hR
  have rl := hid (show R < w1.heap.size from (Array.getElem?_eq_some_iff.1 A1.out).1)
  clear hw1 hR
  have LA := fun z => laid w1 z (nums .u8 (hbx v)).toArray 27
  go_upto_region 2 with (refine wpList_store_row rfl _ _ _ rfl w1.heap.size (nums .u8 (hbx v)).toArray rfl rfl _ _ (heap_alloc_new w1 _) hiv.out rfl hov.out ?_)
  generalize hW : World.setRow _ w1.heap.size _ = w2
  have LA2 : w2.heap[w1.heap.size]? = some (.cells (nums .u8 (hbx v)).toArray 27 (0, 0)) ∧ Below w1.heap.size w1 w2 := by rw [← hW]; exact LA _
  have S2 := hid (sl_row32 LA2.1 rfl)
  have B2 := hid LA2.2
  have A2 := hid (heap_keep A1.out LA2.2)
  obtain ⟨K, hK⟩ : ∃ K, K = w1.heap.size := ⟨_, rfl⟩
  rw [← hK] at S2 ⊢
  clear LA LA2 hW hK

  have AP := alloc_part w2 #[.slice (some ⟨K, 0, none⟩) 32 32] 65
  go_wp2_with (fail)
  generalize w2.alloc (.cells #[.slice (some ⟨K, 0, none⟩) 32 32] 65) = w3 at *
  have B3 := hid AP.2
  refine (SW _ _ w3 AP.1 (S2.out.below B3.out) (HT.out.below (bstep (bstep HB.out B2.out) B3.out))).out.mono ?_
  rintro e w4 ⟨rfl, b4⟩
  have B4 := hid b4
  have A4 := heap_keep (heap_keep A2.out B3.out) b4
  clear b4 AP SW
  go_wp2_with (refine wpList_store_row rfl _ _ _ rfl R (nums .u8 lk).toArray rfl rfl _ _ A4 hil.out (by rw [List.size_toArray, List.size_toArray, nums_length, nums_length, HO.out.1]; rfl) hol.out ?_)
  have q1 := setRow_heap w4 R _ (nums .u8 lk).toArray _ _ A4
  refine bodyPost_ret (results_cellH rfl _ _ R _ (nums .u8 lk).toArray _ _ rfl q1 Tryd.underlying27 rfl hil.out) rfl ?_
  exact ⟨rfl, below_setRow (bstep (bstep (bstep HB.out B2.out) B3.out) B4.out) (by rw [HR.out]; exact Nat.le_refl _) _⟩
end Go.Proofs.YthccjefhlmngbaaDoor

/- The law's quotes. -/
namespace Go.Proofs.YthccjefhlmngbaaDoor
open Go.RowKit

theorem gen_cellAt {w : World} {b o j : Nat} {L : List Value} {v : Value} (h : w.rangeAt b o L) (hj : L[j]? = some v) : w.cell? ⟨b, o + j, none⟩ = some v := h j v hj
/-- a quote that was accepted -/
structure Qd where
  id : List Nat
  buy : Bool
  most : Nat
  rc : Nat
  ru : Nat
  til : Int
def Qd.tail (q : Qd) : List Value := [.bool q.buy, .int .u64 (q.most : Int), .int .u64 (q.rc : Int), .int .u64 (q.ru : Int), .int .i64 q.til]
def Qd.cells (q : Qd) : List Value := nums .u8 q.id ++ q.tail
structure Qd.ok (q : Qd) : Prop where
  il : q.id.length = 32
  ib : ∀ d ∈ q.id, d < 256
  mb : q.most < 18446744073709551616
  cb : q.rc < 18446744073709551616
  ub : q.ru < 18446744073709551616
  tw : (Lit.int .i64 q.til).wf = true
theorem Qd.len {q : Qd} (h : q.ok) : q.cells.length = 37 := by simp [Qd.cells, Qd.tail, h.il]
theorem Qd.hasId (q : Qd) : Has q.cells 0 (nums .u8 q.id) := ⟨[], _, rfl, rfl⟩
theorem Qd.hasT {q : Qd} (h : q.ok) : Has q.cells 32 q.tail := ⟨nums .u8 q.id, [], by simp [Qd.cells], by simp [h.il]⟩
theorem Qd.one (q : Qd) : ∀ v ∈ q.cells, v.oneCell' = true := by
  intro v hv
  simp only [Qd.cells, Qd.tail, List.mem_append, List.mem_cons, List.not_mem_nil, or_false] at hv
  rcases hv with hv | rfl | rfl | rfl | rfl | rfl
  · exact nums_oneCell _ _ v hv
  all_goals rfl
def Qds (w : World) (a : Option Addr) (l c : Nat) (qs : List Qd) : Prop := qs.length = l ∧ Rd w 37 a l c (qs.flatMap Qd.cells) ∧ ∀ q ∈ qs, q.ok
theorem Qds.below {w w' : World} {a : Option Addr} {l c : Nat} {qs : List Qd} (h : Qds w a l c qs) (hb : Below w.heap.size w w') : Qds w' a l c qs := ⟨h.1, h.2.1.below hb, h.2.2⟩
theorem qdat {L : List Qd} (hok : ∀ f ∈ L, f.ok) {j : Nat} {f : Qd} (hj : L[j]? = some f) : Has (L.flatMap Qd.cells) (j * 37) f.cells := by
  induction L generalizing j with
  | nil => simp at hj
  | cons p r ih =>
    cases j with
    | zero =>
      simp only [List.getElem?_cons_zero, Option.some.injEq] at hj
      subst hj
      exact ⟨[], r.flatMap Qd.cells, by simp, by simp⟩
    | succ j =>
      simp only [List.getElem?_cons_succ] at hj
      obtain ⟨A, B, e, hl⟩ := ih (fun x hx => hok x (List.mem_cons_of_mem _ hx)) hj
      refine ⟨p.cells ++ A, B, by rw [List.flatMap_cons, e, List.append_assoc], ?_⟩
      rw [List.length_append, Qd.len (hok p (by simp)), hl, Nat.add_mul]; omega
theorem Qds.get {w : World} {a : Option Addr} {n c k : Nat} {L : List Qd} (h : Qds w a n c L) (hk : k < n) : ∃ b off f, a = some ⟨b, off, none⟩ ∧ L[k]? = some f ∧ w.rangeAt b (off + k * 37) f.cells ∧ f.ok := by
  obtain ⟨hl, ⟨_, _, _, _, b, off, ha, hc⟩, hg⟩ := h
  have hkl : k < L.length := by omega
  have e := List.getElem?_eq_getElem hkl
  refine ⟨b, off, L[k], ha (by omega), e, fun j v hj => ?_, hg _ (List.getElem_mem _)⟩
  obtain ⟨A, B, e2, hA⟩ := qdat hg e
  rw [Nat.add_assoc]
  refine hc _ _ ?_
  rw [e2, List.getElem?_append_right (by omega), hA, Nat.add_sub_cancel_left, List.getElem?_append_left (List.getElem?_eq_some_iff.1 hj).1]
  exact hj
/-- a table's map with one of them more -/
def quM (i : Nat) (q : Qd) (M : QM) (n : Nat) : QM × Nat :=
  if i < 6 then if askC M n (hbx i) q.id q.most = 0 then (resM (updM M (hbx i) (askQ (hbx i) q.id q.buy q.most)) (hbx i) (accS (some (askQ (hbx i) q.id q.buy q.most)) q.rc q.ru q.til), n + 1) else (M, n) else (M, n)
def quS : Nat → List Qd → QM → Nat → QM × Nat
  | _, [], M, n => (M, n)
  | i, q :: r, M, n => quS (i + 1) r (quM i q M n).1 (quM i q M n).2
def qdz : Qd := ⟨hz32, false, 0, 0, 0, 0⟩
theorem qdz_ok : qdz.ok := ⟨hz32_ok.1, hz32_ok.2, by decide, by decide, by decide, by decide⟩
def zD : Array Value := qdz.cells.toArray
theorem zD_size : zD.size = 37 := by unfold zD; rw [List.size_toArray]; exact Qd.len qdz_ok
theorem zD_ne : ¬ zD = #[] := by intro e; have := zD_size; rw [e] at this; exact absurd this (by decide)
theorem zeroD : ∀ w : World, (zeroValue 32).run Tryd.prog w = .ok (.agg zD) w := zv_of (by kernel_rfl)
theorem zD_as {q : Qd} (h : q.ok) : zD.size = q.cells.toArray.size := zD_size.trans (by rw [List.size_toArray, Qd.len h])
theorem infoQd {q : Qd} (h : q.ok) : (Tryd.prog.info? 32).map (·.size) = some q.cells.length := by rw [Qd.len h]; kernel_rfl
theorem infoQda {q : Qd} (h : q.ok) : (Tryd.prog.info? 32).map (·.size) = some q.cells.toArray.size := by rw [List.size_toArray]; exact infoQd h
/-- a table of the law's own, made by quotes -/
def QuRes (w : World) (qs : List Qd) (e : Ending) (w' : World) : Prop := ∃ tb mb, e = .returned (.pointer (some ⟨tb, 0, none⟩)) ∧ TabAt w' tb mb (quS 0 qs (fun _ => none) 0).1 (quS 0 qs (fun _ => none) 0).2 ∧ w.heap.size ≤ tb ∧ w.heap.size ≤ mb ∧ Below w.heap.size w w'
structure QuI (w : World) (tb mb : Nat) (qs : List Qd) (k : Nat) (M : QM) (n : Nat) (wr : World) : Prop where
  tab : TabAt wr tb mb M n
  bel : Below w.heap.size w wr
  eq : quS 0 qs (fun _ => none) 0 = quS k (qs.drop k) M n
  few : n ≤ k
set_option maxRecDepth 100000 in
set_option maxHeartbeats 8000000 in
theorem quotes_walk (a : Option Addr) (l c : Nat) (qs : List Qd) (hl : l ≤ 4294967296) (w : World) (h : Qds w a l c qs) : Calls Tryd.prog 9 #[.slice a l c] w (QuRes w qs) := by
  have H := hid h
  have unQ := Tryd.underlying32
  have un := Tryd.underlying27
  have unR := Tryd.underlying30
  clear h
  go_enter Tryd.func9, Tryd.ntmps9
  go_wp2_with (fail)
  refine (tnew_walk w).mono ?_
  rintro e w1 ⟨tb, mb, rfl, t1, l1, l2, b1⟩
  have T1 := hid (show QuI w tb mb qs 0 (fun _ => none) 0 w1 from ⟨t1, b1, rfl, Nat.le_refl _⟩)
  have L1 := hid l1
  have L2 := hid l2
  clear t1 b1 l1 l2
  go_wp2_with (fail)
  go_loopw [10] (fun x10 wr => ∃ (k : Nat) (M : QM) (n : Nat), k ≤ l ∧ x10 = .int .i64 (k : Int) ∧ QuI w tb mb qs k M n wr) (fun x10 _ => l - (intOf x10).toNat)
  case atStart => exact ⟨0, _, 0, by omega, rfl, T1.out⟩
  case round =>
    obtain ⟨k, M, n, hk, rfl, hq⟩ := hrel
    have HQ := hid hq
    clear hq T1
    by_cases hlt : k < l
    · obtain ⟨b, off, q, ha, hqk, row, qok⟩ := (H.out.below HQ.out.bel).get hlt
      subst ha
      have QK := hid hqk
      have QOK := hid qok
      have hil := hid (infoQd qok)
      have hia := hid (infoQda qok)
      have ho1 := hid (all_oneCell_toArray (Qd.one q))
      have t1 : decide (k < l) = true := decide_eq_true hlt
      have hzq := hid (zD_as qok)
      have ZD := zeroD
      have hneD := zD_ne
      have LA := laid wr zD q.cells.toArray 32
      obtain ⟨bv, hbv⟩ : ∃ bv : Nat, bv = k % 256 := ⟨_, rfl⟩
      have eb : IntKind.u8.wrap (k : Int) = (bv : Int) := by rw [IntKind.wrap_u8]; omega
      have BV := hid hbv
      clear hqk qok hbv
      go_upto_region 5 with (first | with_reducible refine wpList_load_mid rfl _ _ rfl b (off + k * 37) rfl q.cells _ row unQ rfl hil.out ?_ | (refine wpList_store_row rfl _ _ _ rfl wr.heap.size q.cells.toArray rfl rfl _ _ (heap_alloc_new wr _) hia.out hzq.out ho1.out ?_; generalize (wr.alloc (Obj.cells zD 32)).setRow wr.heap.size q.cells.toArray = w2 at *))
      have LA2 := LA
      have RG := hid (row_range LA2.1)
      have HQ2 := hid (show QuI w tb mb qs k M n w2 from ⟨HQ.out.tab.below LA2.2, bstep HQ.out.bel LA2.2, HQ.out.eq, HQ.out.few⟩)
      obtain ⟨G, hG⟩ : ∃ G, G = wr.heap.size := ⟨_, rfl⟩
      have GW2 := hid (show G < w2.heap.size from by rw [hG]; exact (Array.getElem?_eq_some_iff.1 LA2.1).1)
      rw [← hG] at RG ⊢
      have HQ0 := HQ
      have hG' := hid hG
      clear LA LA2 row hil hia ho1 hG HQ hzq ZD hneD
      have hiv := hid (show (Tryd.prog.info? 27).map (·.size) = some (nums .u8 (hbx bv)).toArray.size by kernel_rfl)
      have hov := hid (all_oneCell_toArray (nums_oneCell .u8 (hbx bv)))
      have LB := fun z => laid w2 z (nums .u8 (hbx bv)).toArray 27
      go_upto_region 6 with (refine wpList_store_row rfl _ _ _ rfl w2.heap.size (nums .u8 (hbx bv)).toArray rfl rfl _ _ (heap_alloc_new w2 _) hiv.out rfl hov.out ?_)
      generalize hW : World.setRow _ w2.heap.size _ = w3
      have LB2 : w3.heap[w2.heap.size]? = some (.cells (nums .u8 (hbx bv)).toArray 27 (0, 0)) ∧ Below w2.heap.size w2 w3 := by rw [← hW]; exact LB _
      have KR := hid (row_range LB2.1)
      have RG3 := hid (range_keep LB2.2 RG.out)
      have HQ3 := hid (show QuI w tb mb qs k M n w3 from ⟨HQ2.out.tab.below LB2.2, bstep HQ2.out.bel LB2.2, HQ2.out.eq, HQ2.out.few⟩)
      obtain ⟨K, hK⟩ : ∃ K, K = w2.heap.size := ⟨_, rfl⟩
      rw [← hK] at KR ⊢
      have MBLT := hid (show mb < G from by rw [hG'.out]; exact HQ0.out.tab.map.lt)
      have GLT := hid (show mb < G from MBLT.out)
      have KLT := hid (show G < K from by rw [hK]; exact GW2.out)
      clear LB LB2 hW hiv hov hK HQ2 RG eb
      have STEP := hid (show ∀ M' n' wz, TabAt wz tb mb M' n' → Below w.heap.size w wz → quM k q M n = (M', n') → n' ≤ k + 1 → QuI w tb mb qs (k + 1) M' n' wz from fun M' n' wz ht hb he hn => ⟨ht, hb, by
        rw [HQ3.out.eq, List.drop_eq_getElem_cons (by rw [H.out.1]; exact hlt)]
        have e := (List.getElem?_eq_some_iff.1 QK.out).2
        rw [e]
        show quS (k + 1) _ (quM k q M n).1 (quM k q M n).2 = _
        rw [he], hn⟩)
      have lt32 : k < 4294967296 := by omega
      by_cases h6 : k < 6
      case neg =>
        have t6 : decide (k < 6) = false := decide_eq_false h6
        have t6' : decide ((k : Int) < 6) = false := decide_eq_false (by omega)
        have ST := hid (STEP.out M n w3 HQ3.out.tab HQ3.out.bel (by unfold quM; rw [if_neg h6]) (by have := HQ3.out.few; omega))
        go_wp2_with (fail)
        go_roundw
        case rel => exact ⟨k + 1, M, n, by omega, by go_num, ST.out⟩
        case measure => simp [intOf]; omega
      have t6 : decide (k < 6) = true := decide_eq_true h6
      have t6' : decide ((k : Int) < 6) = true := decide_eq_true (by omega)
      obtain rfl : k = bv := by have := BV.out; omega
      have kr := KR.out
      have qid := (Qd.hasId q).rng RG3.out
      rw [Nat.add_zero] at qid
      have qt := (Qd.hasT QOK.out).rng RG3.out
      have c32 : w3.cell? ⟨G, 32, none⟩ = some (.bool q.buy) := gen_cellAt qt (j := 0) rfl
      have c33 : w3.cell? ⟨G, 33, none⟩ = some (.int .u64 (q.most : Int)) := gen_cellAt qt (j := 1) rfl
      have hik := hid (show (Tryd.prog.info? 27).map (·.size) = some (nums .u8 (hbx k)).length by kernel_rfl)
      have hiq := hid (show (Tryd.prog.info? 27).map (·.size) = some (nums .u8 q.id).length by rw [nums_length, QOK.out.il]; exact infoH)
      go_wp2_with (first | with_reducible refine wpList_load_midG rfl _ _ rfl K 0 rfl (nums .u8 (hbx k)) _ kr un rfl hik.out ?_ | with_reducible refine wpList_load_midG rfl _ _ rfl G 0 rfl (nums .u8 q.id) _ qid un rfl hiq.out ?_)
      refine (ask_walk tb mb n M (hbx k) q.id (hbx_ok (by omega)) ⟨QOK.out.il, QOK.out.ib⟩ q.buy q.most QOK.out.mb w3 HQ3.out.tab).mono ?_
      rintro e w4 ⟨rfl, t4, f4⟩
      have gm := HQ3.out.tab.map.lt
      have B4 := hid (HQ3.out.bel.trans (f4.below L2.out HQ3.out.bel.size))
      have few := HQ3.out.few
      obtain ⟨kc, hkc⟩ : ∃ kc, askC M n (hbx k) q.id q.most = kc := ⟨_, rfl⟩
      have T4 := hid t4
      have F4 := hid f4
      rw [hkc]
      clear t4 f4 kr qid c32 c33
      by_cases h0 : kc = 0
      case neg =>
        have tk : ((kc : Int) == 0) = false := by simp; exact h0
        have eM : askM M n (hbx k) q.id q.buy q.most = M := by unfold askM; rw [if_neg (by omega)]
        have eN : askN M n (hbx k) q.id q.most = n := by unfold askN; rw [if_neg (by omega)]
        rw [eM, eN] at T4
        have ST := hid (STEP.out M n w4 T4.out B4.out (by unfold quM; rw [if_pos h6, if_neg (by omega)]) (by omega))
        clear hkc h0 eM eN
        go_wp2_with (fail)
        go_roundw
        case rel => exact ⟨k + 1, M, n, by omega, by go_num, ST.out⟩
        case measure => simp [intOf]; omega
      subst h0
      have eM : askM M n (hbx k) q.id q.buy q.most = updM M (hbx k) (askQ (hbx k) q.id q.buy q.most) := by unfold askM; rw [if_pos hkc]
      have eN : askN M n (hbx k) q.id q.most = n + 1 := by unfold askN; rw [if_pos hkc]
      rw [eM, eN] at T4
      have HKC := hid hkc
      have KNE := hid (show K ≠ mb from by have := T4.out.map.lt; have h2 := KLT.out; have h3 := MBLT.out; omega)
      have GNE := hid (show G ≠ mb from by have := GLT.out; have h3 := MBLT.out; omega)
      have kr := range_far F4.out KR.out KNE.out
      have rg4 := range_far F4.out RG3.out GNE.out
      have qt := (Qd.hasT QOK.out).rng rg4
      have rr : w4.rangeAt G 34 [.int .u64 (q.rc : Int), .int .u64 (q.ru : Int)] := fun j v hj => by
        have h1 := qt (2 + j) v (by
          match j, hj with
          | 0, hj => exact hj
          | 1, hj => exact hj
          | j + 2, hj => simp at hj)
        rw [show 0 + 32 + (2 + j) = 34 + j by omega] at h1 <;> exact h1
      have c36 : w4.cell? ⟨G, 36, none⟩ = some (.int .i64 q.til) := gen_cellAt qt (j := 4) rfl
      have hir : (Tryd.prog.info? 30).map (·.size) = some ([.int .u64 (q.rc : Int), .int .u64 (q.ru : Int)] : List Value).length := by kernel_rfl
      clear hkc eM eN qt rg4
      go_wp2_with (first | with_reducible refine wpList_load_mid rfl _ _ rfl K 0 rfl (nums .u8 (hbx k)) _ kr un rfl hik.out ?_ | with_reducible refine wpList_load_mid rfl _ _ rfl G 34 rfl [.int .u64 (q.rc : Int), .int .u64 (q.ru : Int)] _ rr unR rfl hir ?_)
      refine (acc_walk tb mb (n + 1) _ (hbx k) (hbx_ok (by omega)) q.rc q.ru QOK.out.cb QOK.out.ub q.til QOK.out.tw w4 T4.out).mono ?_
      rintro e w5 ⟨rfl, t5, f5⟩
      have eU : updM M (hbx k) (askQ (hbx k) q.id q.buy q.most) (hbx k) = some (askQ (hbx k) q.id q.buy q.most) := by unfold updM; rw [if_pos rfl]
      rw [eU] at t5
      have T5 := hid t5
      have B5 := hid (B4.out.trans (f5.below L2.out B4.out.size))
      have ST := hid (STEP.out _ _ w5 T5.out B5.out (by unfold quM; rw [if_pos h6, if_pos HKC.out]) (by omega))
      clear t5 f5 eU kr rr c36
      go_wp2_with (fail)
      go_roundw
      case rel => exact ⟨k + 1, _, _, by omega, by go_num, ST.out⟩
      case measure => simp [intOf]; omega
    · obtain rfl : k = l := by omega
      go_wp2
      go_ret
      have e := HQ.out.eq
      rw [List.drop_of_length_le (Nat.le_of_eq H.out.1)] at e
      refine ⟨tb, mb, rfl, ?_, L1.out, L2.out, HQ.out.bel⟩
      rw [e]
      exact HQ.out.tab
end Go.Proofs.YthccjefhlmngbaaDoor

/- Offers and legs as the laws build them. Printed by wip/bld.py. -/
namespace Go.Proofs.YthccjefhlmngbaaDoor
open Go.RowKit

set_option maxRecDepth 100000 in
theorem bofrA' (a0 a1 a2 a3 a4 a5 a6 a7 a8 a9 a10 a11 a12 a13 a14 a15 a16 a17 a18 a19 a20 a21 a22 a23 a24 a25 a26 a27 a28 a29 a30 a31 b0 b1 b2 b3 b4 b5 b6 b7 b8 b9 b10 b11 b12 b13 b14 b15 b16 b17 b18 b19 b20 b21 b22 b23 b24 b25 b26 b27 b28 b29 b30 b31 m : Nat) (u : Int) : Tryd.prog.built 40 [(2, .agg (nums .u8 [a0, a1, a2, a3, a4, a5, a6, a7, a8, a9, a10, a11, a12, a13, a14, a15, a16, a17, a18, a19, a20, a21, a22, a23, a24, a25, a26, a27, a28, a29, a30, a31]).toArray), (3, .int .u64 (m : Int)), (5, .int .i64 u), (4, .agg (nums .u8 [b0, b1, b2, b3, b4, b5, b6, b7, b8, b9, b10, b11, b12, b13, b14, b15, b16, b17, b18, b19, b20, b21, b22, b23, b24, b25, b26, b27, b28, b29, b30, b31]).toArray)] = some (Ofr.cells ⟨0, 0, [a0, a1, a2, a3, a4, a5, a6, a7, a8, a9, a10, a11, a12, a13, a14, a15, a16, a17, a18, a19, a20, a21, a22, a23, a24, a25, a26, a27, a28, a29, a30, a31], m, [b0, b1, b2, b3, b4, b5, b6, b7, b8, b9, b10, b11, b12, b13, b14, b15, b16, b17, b18, b19, b20, b21, b22, b23, b24, b25, b26, b27, b28, b29, b30, b31], u⟩).toArray := by kernel_rfl
theorem bofrA (id : List Nat) (h1 : id.length = 32) (lk : List Nat) (h2 : lk.length = 32) (m : Nat) (u : Int) : Tryd.prog.built 40 [(2, .agg (nums .u8 id).toArray), (3, .int .u64 (m : Int)), (5, .int .i64 u), (4, .agg (nums .u8 lk).toArray)] = some (Ofr.cells ⟨0, 0, id, m, lk, u⟩).toArray := by
  match id, h1, lk, h2 with
  | [a0, a1, a2, a3, a4, a5, a6, a7, a8, a9, a10, a11, a12, a13, a14, a15, a16, a17, a18, a19, a20, a21, a22, a23, a24, a25, a26, a27, a28, a29, a30, a31], _, [b0, b1, b2, b3, b4, b5, b6, b7, b8, b9, b10, b11, b12, b13, b14, b15, b16, b17, b18, b19, b20, b21, b22, b23, b24, b25, b26, b27, b28, b29, b30, b31], _ => exact bofrA' a0 a1 a2 a3 a4 a5 a6 a7 a8 a9 a10 a11 a12 a13 a14 a15 a16 a17 a18 a19 a20 a21 a22 a23 a24 a25 a26 a27 a28 a29 a30 a31 b0 b1 b2 b3 b4 b5 b6 b7 b8 b9 b10 b11 b12 b13 b14 b15 b16 b17 b18 b19 b20 b21 b22 b23 b24 b25 b26 b27 b28 b29 b30 b31 m u
set_option maxRecDepth 100000 in
theorem bofrB' (b0 b1 b2 b3 b4 b5 b6 b7 b8 b9 b10 b11 b12 b13 b14 b15 b16 b17 b18 b19 b20 b21 b22 b23 b24 b25 b26 b27 b28 b29 b30 b31 m : Nat) (u : Int) : Tryd.prog.built 40 [(3, .int .u64 (m : Int)), (5, .int .i64 u), (4, .agg (nums .u8 [b0, b1, b2, b3, b4, b5, b6, b7, b8, b9, b10, b11, b12, b13, b14, b15, b16, b17, b18, b19, b20, b21, b22, b23, b24, b25, b26, b27, b28, b29, b30, b31]).toArray)] = some (Ofr.cells ⟨0, 0, hz32, m, [b0, b1, b2, b3, b4, b5, b6, b7, b8, b9, b10, b11, b12, b13, b14, b15, b16, b17, b18, b19, b20, b21, b22, b23, b24, b25, b26, b27, b28, b29, b30, b31], u⟩).toArray := by kernel_rfl
theorem bofrB (lk : List Nat) (h2 : lk.length = 32) (m : Nat) (u : Int) : Tryd.prog.built 40 [(3, .int .u64 (m : Int)), (5, .int .i64 u), (4, .agg (nums .u8 lk).toArray)] = some (Ofr.cells ⟨0, 0, hz32, m, lk, u⟩).toArray := by
  match lk, h2 with
  | [b0, b1, b2, b3, b4, b5, b6, b7, b8, b9, b10, b11, b12, b13, b14, b15, b16, b17, b18, b19, b20, b21, b22, b23, b24, b25, b26, b27, b28, b29, b30, b31], _ => exact bofrB' b0 b1 b2 b3 b4 b5 b6 b7 b8 b9 b10 b11 b12 b13 b14 b15 b16 b17 b18 b19 b20 b21 b22 b23 b24 b25 b26 b27 b28 b29 b30 b31 m u
set_option maxRecDepth 100000 in
theorem bofrC' (a0 a1 a2 a3 a4 a5 a6 a7 a8 a9 a10 a11 a12 a13 a14 a15 a16 a17 a18 a19 a20 a21 a22 a23 a24 a25 a26 a27 a28 a29 a30 a31 b0 b1 b2 b3 b4 b5 b6 b7 b8 b9 b10 b11 b12 b13 b14 b15 b16 b17 b18 b19 b20 b21 b22 b23 b24 b25 b26 b27 b28 b29 b30 b31 m : Nat) (n u : Int) : Tryd.prog.built 40 [(0, .int .i64 n), (2, .agg (nums .u8 [a0, a1, a2, a3, a4, a5, a6, a7, a8, a9, a10, a11, a12, a13, a14, a15, a16, a17, a18, a19, a20, a21, a22, a23, a24, a25, a26, a27, a28, a29, a30, a31]).toArray), (3, .int .u64 (m : Int)), (5, .int .i64 u), (4, .agg (nums .u8 [b0, b1, b2, b3, b4, b5, b6, b7, b8, b9, b10, b11, b12, b13, b14, b15, b16, b17, b18, b19, b20, b21, b22, b23, b24, b25, b26, b27, b28, b29, b30, b31]).toArray)] = some (Ofr.cells ⟨n, 0, [a0, a1, a2, a3, a4, a5, a6, a7, a8, a9, a10, a11, a12, a13, a14, a15, a16, a17, a18, a19, a20, a21, a22, a23, a24, a25, a26, a27, a28, a29, a30, a31], m, [b0, b1, b2, b3, b4, b5, b6, b7, b8, b9, b10, b11, b12, b13, b14, b15, b16, b17, b18, b19, b20, b21, b22, b23, b24, b25, b26, b27, b28, b29, b30, b31], u⟩).toArray := by kernel_rfl
theorem bofrC (id : List Nat) (h1 : id.length = 32) (lk : List Nat) (h2 : lk.length = 32) (m : Nat) (n u : Int) : Tryd.prog.built 40 [(0, .int .i64 n), (2, .agg (nums .u8 id).toArray), (3, .int .u64 (m : Int)), (5, .int .i64 u), (4, .agg (nums .u8 lk).toArray)] = some (Ofr.cells ⟨n, 0, id, m, lk, u⟩).toArray := by
  match id, h1, lk, h2 with
  | [a0, a1, a2, a3, a4, a5, a6, a7, a8, a9, a10, a11, a12, a13, a14, a15, a16, a17, a18, a19, a20, a21, a22, a23, a24, a25, a26, a27, a28, a29, a30, a31], _, [b0, b1, b2, b3, b4, b5, b6, b7, b8, b9, b10, b11, b12, b13, b14, b15, b16, b17, b18, b19, b20, b21, b22, b23, b24, b25, b26, b27, b28, b29, b30, b31], _ => exact bofrC' a0 a1 a2 a3 a4 a5 a6 a7 a8 a9 a10 a11 a12 a13 a14 a15 a16 a17 a18 a19 a20 a21 a22 a23 a24 a25 a26 a27 a28 a29 a30 a31 b0 b1 b2 b3 b4 b5 b6 b7 b8 b9 b10 b11 b12 b13 b14 b15 b16 b17 b18 b19 b20 b21 b22 b23 b24 b25 b26 b27 b28 b29 b30 b31 m n u
set_option maxRecDepth 100000 in
theorem bofrD' (b0 b1 b2 b3 b4 b5 b6 b7 b8 b9 b10 b11 b12 b13 b14 b15 b16 b17 b18 b19 b20 b21 b22 b23 b24 b25 b26 b27 b28 b29 b30 b31 m : Nat) (n u : Int) : Tryd.prog.built 40 [(0, .int .i64 n), (3, .int .u64 (m : Int)), (5, .int .i64 u), (4, .agg (nums .u8 [b0, b1, b2, b3, b4, b5, b6, b7, b8, b9, b10, b11, b12, b13, b14, b15, b16, b17, b18, b19, b20, b21, b22, b23, b24, b25, b26, b27, b28, b29, b30, b31]).toArray)] = some (Ofr.cells ⟨n, 0, hz32, m, [b0, b1, b2, b3, b4, b5, b6, b7, b8, b9, b10, b11, b12, b13, b14, b15, b16, b17, b18, b19, b20, b21, b22, b23, b24, b25, b26, b27, b28, b29, b30, b31], u⟩).toArray := by kernel_rfl
theorem bofrD (lk : List Nat) (h2 : lk.length = 32) (m : Nat) (n u : Int) : Tryd.prog.built 40 [(0, .int .i64 n), (3, .int .u64 (m : Int)), (5, .int .i64 u), (4, .agg (nums .u8 lk).toArray)] = some (Ofr.cells ⟨n, 0, hz32, m, lk, u⟩).toArray := by
  match lk, h2 with
  | [b0, b1, b2, b3, b4, b5, b6, b7, b8, b9, b10, b11, b12, b13, b14, b15, b16, b17, b18, b19, b20, b21, b22, b23, b24, b25, b26, b27, b28, b29, b30, b31], _ => exact bofrD' b0 b1 b2 b3 b4 b5 b6 b7 b8 b9 b10 b11 b12 b13 b14 b15 b16 b17 b18 b19 b20 b21 b22 b23 b24 b25 b26 b27 b28 b29 b30 b31 m n u
set_option maxRecDepth 100000 in
theorem bofrE' (a0 a1 a2 a3 a4 a5 a6 a7 a8 a9 a10 a11 a12 a13 a14 a15 a16 a17 a18 a19 a20 a21 a22 a23 a24 a25 a26 a27 a28 a29 a30 a31 m : Nat) (n u : Int) : Tryd.prog.built 40 [(0, .int .i64 n), (2, .agg (nums .u8 [a0, a1, a2, a3, a4, a5, a6, a7, a8, a9, a10, a11, a12, a13, a14, a15, a16, a17, a18, a19, a20, a21, a22, a23, a24, a25, a26, a27, a28, a29, a30, a31]).toArray), (3, .int .u64 (m : Int)), (5, .int .i64 u)] = some (Ofr.cells ⟨n, 0, [a0, a1, a2, a3, a4, a5, a6, a7, a8, a9, a10, a11, a12, a13, a14, a15, a16, a17, a18, a19, a20, a21, a22, a23, a24, a25, a26, a27, a28, a29, a30, a31], m, hz32, u⟩).toArray := by kernel_rfl
theorem bofrE (id : List Nat) (h1 : id.length = 32) (m : Nat) (n u : Int) : Tryd.prog.built 40 [(0, .int .i64 n), (2, .agg (nums .u8 id).toArray), (3, .int .u64 (m : Int)), (5, .int .i64 u)] = some (Ofr.cells ⟨n, 0, id, m, hz32, u⟩).toArray := by
  match id, h1 with
  | [a0, a1, a2, a3, a4, a5, a6, a7, a8, a9, a10, a11, a12, a13, a14, a15, a16, a17, a18, a19, a20, a21, a22, a23, a24, a25, a26, a27, a28, a29, a30, a31], _ => exact bofrE' a0 a1 a2 a3 a4 a5 a6 a7 a8 a9 a10 a11 a12 a13 a14 a15 a16 a17 a18 a19 a20 a21 a22 a23 a24 a25 a26 a27 a28 a29 a30 a31 m n u
set_option maxRecDepth 100000 in
theorem bofrF' (m : Nat) (n u : Int) : Tryd.prog.built 40 [(0, .int .i64 n), (3, .int .u64 (m : Int)), (5, .int .i64 u)] = some (Ofr.cells ⟨n, 0, hz32, m, hz32, u⟩).toArray := by kernel_rfl
theorem bofrF (m : Nat) (n u : Int) : Tryd.prog.built 40 [(0, .int .i64 n), (3, .int .u64 (m : Int)), (5, .int .i64 u)] = some (Ofr.cells ⟨n, 0, hz32, m, hz32, u⟩).toArray := by
  exact bofrF' m n u
set_option maxRecDepth 100000 in
theorem bleg' (a0 a1 a2 a3 a4 a5 a6 a7 a8 a9 a10 a11 a12 a13 a14 a15 a16 a17 a18 a19 a20 a21 a22 a23 a24 a25 a26 a27 a28 a29 a30 a31 b0 b1 b2 b3 b4 b5 b6 b7 b8 b9 b10 b11 b12 b13 b14 b15 b16 b17 b18 b19 b20 b21 b22 b23 b24 b25 b26 b27 b28 b29 b30 b31 m : Nat) (l n f u : Int) : Tryd.prog.built 42 [(0, .int .i64 l), (1, .agg (Ofr.cells ⟨n, f, [a0, a1, a2, a3, a4, a5, a6, a7, a8, a9, a10, a11, a12, a13, a14, a15, a16, a17, a18, a19, a20, a21, a22, a23, a24, a25, a26, a27, a28, a29, a30, a31], m, [b0, b1, b2, b3, b4, b5, b6, b7, b8, b9, b10, b11, b12, b13, b14, b15, b16, b17, b18, b19, b20, b21, b22, b23, b24, b25, b26, b27, b28, b29, b30, b31], u⟩).toArray)] = some (Lg.cells ⟨l, ⟨n, f, [a0, a1, a2, a3, a4, a5, a6, a7, a8, a9, a10, a11, a12, a13, a14, a15, a16, a17, a18, a19, a20, a21, a22, a23, a24, a25, a26, a27, a28, a29, a30, a31], m, [b0, b1, b2, b3, b4, b5, b6, b7, b8, b9, b10, b11, b12, b13, b14, b15, b16, b17, b18, b19, b20, b21, b22, b23, b24, b25, b26, b27, b28, b29, b30, b31], u⟩⟩).toArray := by kernel_rfl
theorem bleg (l : Int) (x : Ofr) (h1 : x.id.length = 32) (h2 : x.lock.length = 32) : Tryd.prog.built 42 [(0, .int .i64 l), (1, .agg x.cells.toArray)] = some (Lg.cells ⟨l, x⟩).toArray := by
  obtain ⟨n, f, id, m, lk, u⟩ := x
  dsimp only at h1 h2
  match id, h1, lk, h2 with
  | [a0, a1, a2, a3, a4, a5, a6, a7, a8, a9, a10, a11, a12, a13, a14, a15, a16, a17, a18, a19, a20, a21, a22, a23, a24, a25, a26, a27, a28, a29, a30, a31], _, [b0, b1, b2, b3, b4, b5, b6, b7, b8, b9, b10, b11, b12, b13, b14, b15, b16, b17, b18, b19, b20, b21, b22, b23, b24, b25, b26, b27, b28, b29, b30, b31], _ => exact bleg' a0 a1 a2 a3 a4 a5 a6 a7 a8 a9 a10 a11 a12 a13 a14 a15 a16 a17 a18 a19 a20 a21 a22 a23 a24 a25 a26 a27 a28 a29 a30 a31 b0 b1 b2 b3 b4 b5 b6 b7 b8 b9 b10 b11 b12 b13 b14 b15 b16 b17 b18 b19 b20 b21 b22 b23 b24 b25 b26 b27 b28 b29 b30 b31 m l n f u
end Go.Proofs.YthccjefhlmngbaaDoor

/- The chapter's example: what Hand answers there, plain. -/
namespace Go.Proofs.YthccjefhlmngbaaDoor
open Go.RowKit

def hq (used : Nat) : Quo := ⟨hbx 1, hbx 9, false, 100, 1, 3, 2, 40, used⟩
def exIn (lk : List Nat) : Lg := ⟨1, ⟨0, 0, hbx 9, 10, lk, 50⟩⟩
def exOut (am : Nat) (til : Int) (lk : List Nat) : Lg := ⟨2, ⟨0, 0, hz32, am, lk, til⟩⟩
theorem hz_ne9 : ¬ hbx 9 = hz32 := by decide
theorem hq_ok {u : Nat} (h : u < 18446744073709551616) : (hq u).ok := ⟨rfl, (hbx_ok (by decide)).2, rfl, (hbx_ok (by decide)).2, (by decide : (100 : Nat) < 18446744073709551616), (by decide : (3 : Nat) < 18446744073709551616), (by decide : (2 : Nat) < 18446744073709551616), h, (by decide : (Lit.int .i64 1).wf = true), (by decide : (Lit.int .i64 40).wf = true)⟩
theorem exIn_ok {lk : List Nat} (h : EH.ok lk) : (exIn lk).ok := ⟨⟨rfl, (hbx_ok (by decide)).2, (by decide : (10 : Nat) < 18446744073709551616), h.1, h.2, (by decide : (Lit.int .i64 0).wf = true), (by decide : (Lit.int .i64 0).wf = true), (by decide : (Lit.int .i64 50).wf = true)⟩, (by decide : (Lit.int .i64 1).wf = true)⟩
theorem exOut_ok {am : Nat} {til : Int} {lk : List Nat} (h : EH.ok lk) (ha : am < 18446744073709551616) (ht : (Lit.int .i64 til).wf = true) : (exOut am til lk).ok := ⟨⟨rfl, hz32_ok.2, ha, h.1, h.2, (by decide : (Lit.int .i64 0).wf = true), (by decide : (Lit.int .i64 0).wf = true), ht⟩, (by decide : (Lit.int .i64 2).wf = true)⟩
theorem arg_ex {am : Nat} {til : Int} {lk : List Nat} (h0 : 0 ≤ til) (h1 : til ≤ 1073741824) : argB (exIn lk) (exOut am til lk) = false := by
  unfold argB exIn exOut isH
  have e9 : decide (hbx 9 = hz32) = false := decide_eq_false hz_ne9
  have e1 : decide (0 ≤ til) = true := decide_eq_true h0
  have e2 : decide (til ≤ 1073741824) = true := decide_eq_true h1
  simp [e9, e1, e2]
theorem pick_ex {am : Nat} {til : Int} {lk : List Nat} : pickA (exIn lk) (exOut am til lk) = (exIn lk).o ∧ pickB (exIn lk) (exOut am til lk) = (exOut am til lk).o := by
  unfold pickA pickB
  exact ⟨if_neg hz_ne9, if_neg hz_ne9⟩
theorem handU_ex {M : QM} (hM : M (hbx 1) = some (hq 0)) {am : Nat} {til : Int} {lk : List Nat} : handU M (exIn lk) (exOut am til lk) (hbx 1) 9 = if am * 2 ≤ 10 * 3 then (hq 10, 0) else (qz, 60) := by
  unfold handU
  rw [if_neg (show ¬ (exIn lk).o.id = hz32 from hz_ne9), pick_ex.1, pick_ex.2, hM]
  have e : holdsS (some (hq 0)) 9 10 = (hq 10, 0) := by
    show (if (1 : Int) = 1 then (if (40 : Int) < 9 then (qz, 33) else if 0 + 10 < 18446744073709551616 then (if 100 < 0 + 10 then (qz, 51) else (hq 10, 0)) else (qz, 51)) else (qz, 52)) = _
    rw [if_pos rfl, if_neg (by decide), if_pos (by decide), if_neg (by decide)]
  show useS (some (hq 0)) false 9 10 _ = _
  unfold useS
  rw [if_neg (by decide), e, if_neg (by simp)]
  show (if (false ≠ false ∨ payB 10 3 am 2 = false) then _ else _) = _
  have hp : payB 10 3 am 2 = decide (am * 2 ≤ 10 * 3) := by unfold payB; rw [if_neg (by decide)]
  rw [hp]
  by_cases h : am * 2 ≤ 10 * 3
  · rw [decide_eq_true h, if_pos h, if_neg (by simp)]
  · rw [decide_eq_false h, if_neg h, if_pos (.inr rfl)]
theorem handC_ex {M : QM} (hM : M (hbx 1) = some (hq 0)) {am : Nat} {til : Int} {lk : List Nat} (h0 : 0 ≤ til) (h1 : til ≤ 1073741824) :
    handC (exIn lk) (exOut am til lk) (hbx 1) 9 5 [] M = if til ≤ 9 ∨ 50 - til < 5 then 33 else if am * 2 ≤ 10 * 3 then 0 else 60 := by
  unfold handC
  rw [arg_ex h0 h1, if_neg (by decide), if_neg (by simp [anyF]), if_neg (by simp)]
  have ht : timB (exIn lk) (exOut am til lk) 9 5 = decide (til ≤ 9 ∨ 50 - til < 5) := by
    unfold timB exIn exOut
    simp only [Bool.decide_or]
  rw [ht]
  by_cases h : til ≤ 9 ∨ 50 - til < 5
  · rw [decide_eq_true h, if_pos rfl, if_pos h]
  · rw [decide_eq_false h, if_neg (by decide), if_neg h, hM]
    unfold handT
    simp only
    rw [pick_ex.1, if_neg (by simp [exIn, hq]), handU_ex hM]
    split <;> rfl
end Go.Proofs.YthccjefhlmngbaaDoor
