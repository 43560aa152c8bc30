/- The journal's record. -/
import Derived.Test.YtnophelfpoldfaaGreatDoorGShaP
import Derived.Test.YtnophelfpoldfaaGreatDoorGTagN
namespace Go.Proofs.YtnophelfpoldfaaGreatDoor
open Go.RowKit

theorem results_tmp_cell {P : Program} {fn : Func} {p q : Tmp} {ty : TypeId} (h : fn.results = #[.tmp q, .cell p ty]) (tmps : Array Value) (w : World) (g : Nat) (t : TypeId) (cs : Array Value) (fr : Nat × Nat) (d : TypeDesc) (v : Value)
    (hp : tmps.getD p undef = .pointer (some ⟨g, 0, none⟩)) (hq : tmps.getD q undef = v) (hg : w.heap[g]? = some (.cells cs t fr))
    (hu : P.underlying ty = some d) (hd : (match d with | .struct _ | .array _ _ => true | _ => false) = true) (hi : (P.info? ty).map (·.size) = some cs.size) :
    (results fn tmps).run P w = .ok (.tuple #[v, .agg cs]) w := by
  have hp' : tmps[p]?.getD undef = .pointer (some ⟨g, 0, none⟩) := by simpa using hp
  have hq' : tmps[q]?.getD undef = v := by simpa using hq
  simp [results, h, hp', hq', asAddr, run_loadVar_row w g t ty cs fr d hg hu hd hi]
theorem own_lowB {w : World} {A B : Nat} {e : TypeId} {size n : Nat} {v : Value} {xs : List Value} (h : w.ownsRow A e size v n xs) (hB : B ≤ A) : w.ownsRow B e size v n xs := by
  refine ⟨h.1, ?_⟩
  rcases h.2 with hv | ⟨g, cap, cur, hv, hb, rest⟩
  · exact .inl hv
  · exact .inr ⟨g, cap, cur, hv, Nat.le_trans hB hb, rest⟩
def nmRec : ByteArray := ⟨#[109, 111, 110, 101, 121, 101, 114, 47, 114, 101, 99, 111, 114, 100]⟩
def recH (ah b : List Nat) : List Nat := sha (tagH nmRec ++ (ah ++ b))
def be4 (n : Nat) : List Nat := [n / 16777216 % 256, n / 65536 % 256, n / 256 % 256, n % 256]
def padTo (xs : List Nat) : List Nat := xs ++ List.replicate ((64 - xs.length % 64) % 64) 0
def recB (ah b : List Nat) : List Nat := padTo (be4 b.length ++ (recH ah b ++ b))
theorem recParts {w wx : World} {gt P H0 n c : Nat} {t : TypeId} {a : Option Addr} {ah b : List Nat} (hP : wx.heap[P]? = some (.cells #[.slice (some ⟨H0, 0, none⟩) 32 32, .slice a n c] t (0, 0))) (hH : wx.heap[H0]? = some (.cells (nums .u8 ah).toArray 62 (0, 0))) (h32 : ah.length = 32) (h8 : ∀ d ∈ ah, d < 256)
    (hb : Sl .u8 w a n c b) (hb8 : ∀ d ∈ b, d < 256) (hn : n ≤ 140737488351232) (bw : Below w.heap.size w wx) (hgt : w.heap.size ≤ gt) (hPg : P ≠ gt) (hHg : H0 ≠ gt) : ∀ w', Far gt wx w' → Parts w' (some ⟨P, 0, none⟩) 2 2 [⟨some ⟨H0, 0, none⟩, 32, ah⟩, ⟨a, c, b⟩] := by
  intro w' hf
  have hP' := heap_far hP hf hPg
  have hH' := heap_far hH hf hHg
  have hl := hb.len
  have bw' : Below w.heap.size w w' := bw.trans (hf.below hgt bw.size)
  refine ⟨⟨by simp [BS.cells], Nat.le_refl _, by decide, (fun e => nomatch e), P, 0, fun _ => rfl, fun j u hu => ?_⟩, rfl, fun l hl' => ?_⟩
  · have := gen_cell (j := j) (row_range (L := [.slice (some ⟨H0, 0, none⟩) 32 32, .slice a n c]) hP') (v := u) (by simpa [BS.cells, h32, hl] using hu)
    simpa using this
  · simp only [List.mem_cons, List.not_mem_nil, or_false] at hl'
    rcases hl' with rfl | rfl
    · refine ⟨⟨by simp, by simp [h32], (show (32 : Nat) ≤ maxLen by decide), (fun e => nomatch e), H0, 0, fun _ => rfl, fun j u hu => ?_⟩, h8, by simp [h32]⟩
      have := gen_cell (j := j) (row_range hH') hu
      simpa using this
    · exact ⟨by rw [show (BS.mk a c b).v.length = n from hl]; exact hb.below bw', hb8, by rw [show (BS.mk a c b).v.length = n from hl]; exact hn⟩
def TSumRec (w : World) (g : Nat) (ah b : List Nat) (e : Ending) (w' : World) : Prop := e = .returned (.agg (nums .u8 (recH ah b)).toArray) ∧ Far g w w'
def RecRes (w : World) (ah b : List Nat) (e : Ending) (w' : World) : Prop := ∃ v, e = .returned (.tuple #[v, .agg (nums .u8 (recH ah b)).toArray]) ∧ w'.ownsRow w.heap.size 5 1 v (recB ah b).length (nums .u8 (recB ah b)) ∧ Below w.heap.size w w'
structure RecS (w : World) (V H B : Nat) (rc : List Nat) (v : Value) (m : Nat) (xs : List Value) (w' : World) : Prop where
  rng : w'.rangeAt V 0 (nums .u8 rc)
  row : ∃ cs, w'.heap[H]? = some (.cells cs 62 (0, 0)) ∧ cs.size = 32
  own : w'.ownsRow B 5 1 v m xs
  bel : Below w.heap.size w w'
theorem RecS.set {w w' : World} {V H B : Nat} {rc : List Nat} {v : Value} {m : Nat} {xs : List Value} (h : RecS w V H B rc v m xs w') (hV : V ≠ H) (hB : H < B) (hw : w.heap.size ≤ H) (cs : Array Value) (hc : cs.size = 32) : RecS w V H B rc v m xs (w'.setRow H cs) := by
  obtain ⟨c0, hc0, _⟩ := h.row
  exact ⟨range_far (far_row _ _ _) h.rng hV, ⟨cs, setRow_heap _ _ _ _ _ _ hc0, hc⟩, Far.own h.own (far_row _ _ _) (fun e => by have := (h.own.lt _ e).1; omega), below_setRow h.bel hw _⟩
theorem own_sliceJ {w : World} {B : Nat} {e : TypeId} {size : Nat} {v : Value} {n : Nat} {xs : List Value} (h : w.ownsRow B e size v n xs) (hn : 0 < n) : ∃ g c, v = .slice (some ⟨g, 0, none⟩) n c := by
  rcases h.2 with ⟨rfl, rfl⟩ | ⟨g, cap, cur, rfl, _⟩
  · omega
  · exact ⟨g, cap, rfl⟩
set_option maxRecDepth 100000 in
set_option maxHeartbeats 8000000 in
theorem jrecord_walk (ah : List Nat) (h32 : ah.length = 32) (h8 : ∀ d ∈ ah, d < 256) (a : Option Addr) (n c : Nat) (b : List Nat) (w : World) (hb : Sl .u8 w a n c b) (hb8 : ∀ d ∈ b, d < 256) (hn : n < 1073741824) (ht : Tabs w) :
    Calls Tryz.prog 25 #[.agg (nums .u8 ah).toArray, .slice a n c] w (RecRes w ah b) := by
  have HB := hid hb
  have HB8 := hid hb8
  have H8 := hid h8
  have H32 := hid h32
  have HN := hid hn
  have HT := hid ht
  obtain ⟨zz, hzz⟩ : ∃ zz : List Nat, zz = List.replicate 32 0 := ⟨_, rfl⟩
  have ZH : ∀ w : World, (zeroValue 62).run Tryz.prog w = .ok (.agg (nums .u8 zz).toArray) w := by rw [hzz]; exact zv_of (by kernel_rfl)
  have lz := hid (show zz.length = 32 by rw [hzz]; rfl)
  have A2 := alloc2p w (.cells (nums .u8 ah).toArray 62) (.cells (nums .u8 zz).toArray 62)
  have HA := hid A2.1
  have HR := hid A2.2.1
  have B1 := hid A2.2.2.2
  clear hb hb8 hn ht h8 h32 A2 hzz
  go_enter Tryz.func25, Tryz.ntmps25
  go_upto_region 1 with (fail)
  generalize (w.alloc (.cells (nums .u8 ah).toArray 62)).alloc (.cells (nums .u8 zz).toArray 62) = w1 at *
  rename_i K2 a2
  have A2 := hid a2
  clear a2
  have MID : ∀ (V : Nat) (u9 u10 u11 u12 u13 : Value) (wz : World), wz.heap[V]? = some (.cells (nums .u8 (recH ah b)).toArray 62 (0, 0)) → w.heap.size ≤ V → V ≠ w.heap.size + 1 → Below w1.heap.size w1 wz →
      K2 ⟨List.toArray (.agg (nums .u8 ah).toArray :: .slice a n c :: .pointer (some ⟨w.heap.size, 0, none⟩) :: undef :: .slice none 0 0 :: .pointer (some ⟨w.heap.size + 1, 0, none⟩) :: .pointer (some ⟨V, 0, none⟩) :: undef :: undef :: u9 :: u10 :: u11 :: u12 :: u13 :: List.replicate 28 undef), []⟩ wz := by
    intro V u9 u10 u11 u12 u13 wz hv hVl hVn hb
    have HV := hid hv
    have BZ := hid (show Below w.heap.size w wz from B1.out.trans (hb.mono B1.out.size))
    have HRz := hid (heap_keep HR.out hb)
    have VL := hid (And.intro hVl hVn)
    refine A2.out _ _ ?_
    clear hv hb A2 hVl hVn
    simp only [List.replicate_succ, List.replicate_zero]
    have hl := HB.out.len
    obtain ⟨x0, hx0⟩ : ∃ x0, x0 = n / 16777216 % 256 := ⟨_, rfl⟩
    obtain ⟨x1, hx1⟩ : ∃ x1, x1 = n / 65536 % 256 := ⟨_, rfl⟩
    obtain ⟨x2, hx2⟩ : ∃ x2, x2 = n / 256 % 256 := ⟨_, rfl⟩
    obtain ⟨x3, hx3⟩ : ∃ x3, x3 = n % 256 := ⟨_, rfl⟩
    have BE := hid (show be4 b.length = [x0, x1, x2, x3] from by rw [hl, hx0, hx1, hx2, hx3]; rfl)
    have e0 : (n : Int) / 16777216 % 256 = (x0 : Int) := by omega
    have e1 : (n : Int) / 65536 % 256 = (x1 : Int) := by omega
    have e2 : (n : Int) / 256 % 256 = (x2 : Int) := by omega
    have e3 : (n : Int) % 256 = (x3 : Int) := by omega
    have HL := hid hl
    clear hx0 hx1 hx2 hx3 hl
    have own4 : (wz.alloc (.cells #[.int .u8 (x0 : Int), .int .u8 (x1 : Int), .int .u8 (x2 : Int), .int .u8 (x3 : Int)] 5)).ownsRow wz.heap.size 5 1 (.slice (some ⟨wz.heap.size, 0, none⟩) 4 4) 4 (nums .u8 [x0, x1, x2, x3]) :=
      ⟨rfl, .inr ⟨wz.heap.size, 4, _, rfl, Nat.le_refl _, heap_alloc_new _ _, Nat.le_refl _, by decide, rfl, rfl⟩⟩
    have O4 := hid own4
    have ba := (Below.refl wz.heap.size wz).alloc (Nat.le_refl _) (.cells #[.int .u8 (x0 : Int), .int .u8 (x1 : Int), .int .u8 (x2 : Int), .int .u8 (x3 : Int)] 5)
    have BA := hid ba
    have SH := hid (show Rd _ 1 (some ⟨V, 0, none⟩) 32 32 (nums .u8 (recH ah b)) from ⟨by rw [nums_length]; unfold recH; rw [sha_len], Nat.le_refl _, (show (32 : Nat) ≤ maxLen by decide), (fun e => nomatch e), V, 0, fun _ => rfl, fun j u hu => by have := gen_cell (j := j) (row_range (heap_keep HV.out ba)) hu; simpa using this⟩)
    clear own4 ba
    go_upto_region 4 with (first | (at_builtin; refine wpList_cat rfl _ _ 22 rfl tyBs wz.heap.size O4.out rfl rfl SH.out (nums_oneCell _ _) (by omega) (by unfold maxLen; omega) BA.out.size ?_; intro v5 w5 own5 b5 hs5 _; have O5 := hid own5; have B5 := hid b5; clear own5 b5 hs5))
    have HBz := hid ((HB.out.below BZ.out).below (BA.out.trans B5.out))
    go_upto_region 5 with (first | (at_builtin; refine wpList_cat rfl _ _ 22 rfl tyBs wz.heap.size O5.out rfl rfl HBz.out (nums_oneCell _ _) (by have := HN.out; omega) (by have := HN.out; unfold maxLen; omega) (Nat.le_trans BA.out.size B5.out.size) ?_; intro v6 w6 own6 b6 hs6 _; have O6 := hid own6; have B6 := hid b6; clear own6 b6 hs6))
    obtain ⟨m0, hm0⟩ : ∃ m0, m0 = 4 + 32 + n := ⟨_, rfl⟩
    obtain ⟨xs0, hxs⟩ : ∃ xs0, xs0 = be4 b.length ++ (recH ah b ++ b) := ⟨_, rfl⟩
    have ox : w6.ownsRow wz.heap.size 5 1 v6 m0 (nums .u8 xs0) := by
      have o := O6.out
      rw [hxs, hm0, BE.out, ← nums_append, ← nums_append, ← List.append_assoc]
      exact o
    have OX := hid ox
    have lx : xs0.length = m0 := by rw [hxs, hm0, BE.out, List.length_append, List.length_append, HL.out]; unfold recH; rw [sha_len, List.length_cons, List.length_cons, List.length_cons, List.length_cons, List.length_nil]; omega
    have PX := hid (show recB ah b = xs0 ++ List.replicate ((64 - m0 % 64) % 64) 0 by unfold recB padTo; rw [← hxs, lx])
    have LX := hid lx
    have M0 := hid (show m0 = 36 + n by omega)
    have B06 := hid (show Below wz.heap.size wz w6 from (BA.out.trans B5.out).trans B6.out)
    clear ox hm0 hxs lx O4 O5 O6 B5 B6 BA HBz SH
    go_loopw [8] (fun x8 wr => ∃ j : Nat, j ≤ (64 - m0 % 64) % 64 ∧ wr.ownsRow wz.heap.size 5 1 x8 (m0 + j) (nums .u8 (xs0 ++ List.replicate j 0)) ∧ Below wz.heap.size wz wr) (fun x8 _ => (64 - lenV x8 % 64) % 64)
    case atStart => exact ⟨0, Nat.zero_le _, by rw [List.replicate_zero, List.append_nil]; exact OX.out, B06.out⟩
    case round =>
      obtain ⟨j, hj, ho, hb⟩ := hrel
      obtain ⟨g, c8, rfl⟩ := own_sliceJ ho (by have := M0.out; omega)
      have OW := hid ho
      have BB := hid hb
      have MM := M0.out
      have NN := HN.out
      clear ho hb
      by_cases hlt : j = (64 - m0 % 64) % 64
      case pos =>
        obtain ⟨m1, hm1⟩ : ∃ m1, m1 = m0 + j := ⟨_, rfl⟩
        rw [← hm1] at OW
        rw [← hm1]
        have r1 : ((m1 : Nat) : Int).tmod 64 = 0 := by rw [Int.tmod_eq_emod_of_nonneg (by omega)]; omega
        have M1 := hid hm1
        have J1 := hid hlt
        clear hm1 hlt hj MM NN
        go_upto_region 7 with (fail)
        obtain ⟨rc, hrc⟩ : ∃ rc, rc = recH ah b := ⟨_, rfl⟩
        have LR := hid (show rc.length = 32 by rw [hrc]; unfold recH; rw [sha_len])
        have HRC := hid hrc
        have lo := BZ.out.size
        have z6 := (Array.getElem?_eq_some_iff.1 HRz.out).1
        have VL2 := VL.out
        have RS := hid (show RecS w V (w.heap.size + 1) wz.heap.size rc (.slice (some ⟨g, 0, none⟩) m1 c8) m1 (nums .u8 (xs0 ++ List.replicate j 0)) wr from ⟨by rw [hrc]; exact row_range (heap_keep HV.out BB.out), ⟨_, heap_keep HRz.out BB.out, by rw [List.size_toArray, nums_length, lz.out]⟩, OW.out, BZ.out.trans (BB.out.mono BZ.out.size)⟩)
        have hi6 := hid (show (Tryz.prog.info? 62).map (·.size) = some (nums .u8 rc).toArray.size by rw [List.size_toArray, nums_length, LR.out]; kernel_rfl)
        have hiL := hid (show (Tryz.prog.info? 62).map (·.size) = some (nums .u8 rc).length by rw [nums_length, LR.out]; kernel_rfl)
        have h16 := hid (all_oneCell_toArray (nums_oneCell .u8 rc))
        have hsz : (nums .u8 rc).toArray.size = 32 := by rw [List.size_toArray, nums_length, LR.out]
        refine wp_region_held_drew (S := RecS w V (w.heap.size + 1) wz.heap.size rc (.slice (some ⟨g, 0, none⟩) m1 c8) m1 (nums .u8 (xs0 ++ List.replicate j 0))) (by kernel_rfl) (⟨fun j v hv => RS.out.rng j v hv, RS.out.row, RS.out.own, RS.out.bel.drew⟩) (fun hHeld => ?_)
        try simp only [List.size_toArray, List.length_cons, List.length_nil, Nat.reduceAdd, Array.replicate_succ, Array.replicate_zero, List.push_toArray, List.nil_append, List.cons_append]
        refine wpAnyH_take (i := 0) (oi := { dst := some 40, op := Op.move (Operand.tmp 8), type := 22, pos := "journal.go:45", after := #[], guard := none }) (v := ?v1001) rfl (by kernel_rfl) (by kernel_rfl) (by kernel_rfl) (fun _ _ _ h => h) (Or.inl ⟨by rfl, ?hy1001⟩) hHeld ?_
        case hy1001 => (intro w hSw; (try dsimp only at hSw); go_simp; (try with_reducible rfl))
        (try simp only [Act.put, List.setIfInBounds_toArray, List.set_cons_zero, List.set_cons_succ])
        refine' wpAnyH_take (i := 1) (oi := { dst := some 41, op := Op.load 62 (Operand.tmp 6), type := 62, pos := "journal.go:45", after := #[{ on := 2, ground := Ground.gcOnly Departure.lateStores }], guard := none }) (v := _) rfl (by kernel_rfl) (by kernel_rfl) (by kernel_rfl) (fun _ _ _ h => h) (yieldsIf_load_mid (by rfl) _ _ rfl V 0 rfl (nums .u8 rc) _ (fun _ h => h.rng) Tryz.underlying62 rfl hiL.out) hHeld ?_
        (try simp only [Act.put, List.setIfInBounds_toArray, List.set_cons_zero, List.set_cons_succ])
        refine wpAnyH_take (i := 2) (oi := { dst := some 4, op := Op.assign (Operand.tmp 40), type := 22, pos := "journal.go:45", after := #[{ on := 0, ground := Ground.data }, { on := 0, ground := Ground.phase }, { on := 1, ground := Ground.textOnly Departure.lateStores }], guard := none }) (v := ?v1002) rfl (by kernel_rfl) (by kernel_rfl) (by kernel_rfl) (fun _ _ _ h => h) (Or.inl ⟨by rfl, ?hy1002⟩) hHeld ?_
        case hy1002 => (intro w hSw; (try dsimp only at hSw); go_simp; (try with_reducible rfl))
        (try simp only [Act.put, List.setIfInBounds_toArray, List.set_cons_zero, List.set_cons_succ])
        refine wpAnyH_ready (rs := [3]) (by kernel_rfl) (by simp) ?_
        refine AllReadyH.cons (o := { dst := none, op := Op.store 62 (Operand.tmp 5) (Operand.tmp 41), type := 0, pos := "journal.go:45", after := #[{ on := 1, ground := Ground.data }, { on := 2, ground := Ground.chain }, { on := 0, ground := Ground.phase }, { on := 1, ground := Ground.phase }, { on := 2, ground := Ground.phase }], guard := none }) rfl (fun K hK => ?_) ?_
        obtain ⟨cs, hcs, hcl⟩ := hHeld.row; have HCS := hid hcs; rw [if_pos (by rfl)]; refine wp_store_row _ _ _ rfl _ (nums .u8 rc).toArray rfl rfl _ _ hcs hi6.out (hcl.trans hsz.symm) h16.out ?_
        refine hK.out _ _ (hHeld.set (by omega) (by omega) (by omega) _ hsz) (fun hHeld => ?_)
        clear hK K
        (try simp only [List.setIfInBounds_toArray, List.set_cons_zero, List.set_cons_succ])
        refine wpAnyH_done (by kernel_rfl) ?_ _
        rotate_left
        exact AllReadyH.nil
        all_goals
          have OE := hHeld.own
          have BE2 := hHeld.bel
          go_wp2_with (fail)
          refine bodyPost_ret (results_tmp_cell rfl _ _ (w.heap.size + 1) _ (nums .u8 rc).toArray _ _ _ rfl rfl (setRow_heap _ _ _ _ _ _ HCS.out) Tryz.underlying62 rfl hi6.out) rfl ?_
          have px := PX.out
          have lr : (recB ah b).length = m1 := by rw [px, List.length_append, LX.out, List.length_replicate, ← J1.out, ← M1.out]
          refine ⟨_, by rw [HRC.out], ?_, BE2⟩
          rw [lr, px, ← J1.out]
          exact own_lowB OE lo
      case neg =>
        obtain ⟨m1, hm1⟩ : ∃ m1, m1 = m0 + j := ⟨_, rfl⟩
        rw [← hm1] at OW
        rw [← hm1]
        obtain ⟨q, hq⟩ : ∃ q, q = m1 % 64 := ⟨_, rfl⟩
        have r1 : ((m1 : Nat) : Int).tmod 64 = (q : Int) := by rw [Int.tmod_eq_emod_of_nonneg (by omega)]; omega
        have r2 : ((q : Int) == 0) = false := by rw [beq_eq_false_iff_ne]; omega
        have M1 := hid hm1
        have J1 := hid hlt
        have J2 := hid hj
        have Q1 := hid hq
        clear hm1 hlt hj hq MM NN
        go_wp2_with (at_builtin; refine wpList_push rfl _ _ 22 rfl tyBs wz.heap.size OW.out rfl rfl rfl rfl (by have := M1.out; have := M0.out; have := HN.out; have := J2.out; omega) (by decide) BB.out.size ?_; intro v9 w9 own9 b9 hs9 _; have O9 := hid own9; have B9 := hid b9; clear own9 b9 hs9)
        go_roundw
        case rel => exact ⟨j + 1, by have := J1.out; have := J2.out; omega, by
          have o := O9.out
          rw [M1.out] at o
          rw [List.replicate_succ', ← List.append_assoc, ← nums_append, ← Nat.add_assoc]
          exact o, BB.out.trans B9.out⟩
        case measure => obtain ⟨g9, c9, rfl⟩ := own_sliceJ O9.out (by omega); simp only [lenV]; have := M1.out; have := J1.out; have := J2.out; omega
  have M2 := hid MID
  clear MID A2
  have SW := fun (gt : Nat) (cur : Array Value) (P : Nat) (wx : World) (hg : wx.heap[gt]? = some (.cells cur 131 (0, 0))) (hN : TagNew cur nmRec 0) (hP : wx.heap[P]? = some (.cells #[.slice (some ⟨w.heap.size, 0, none⟩) 32 32, .slice a n c] 22 (0, 0))) (hH : wx.heap[w.heap.size]? = some (.cells (nums .u8 ah).toArray 62 (0, 0))) (bw : Below w.heap.size w wx) (hgt : w.heap.size < gt) (hPg : P ≠ gt) => hid (show Calls Tryz.prog 42 #[.pointer (some ⟨gt, 0, none⟩), .slice (some ⟨P, 0, none⟩) 2 2] wx (TSumRec wx gt ah b) from by
    have h := tsum_walk gt 0 131 nmRec cur (some ⟨P, 0, none⟩) 2 2 [⟨some ⟨w.heap.size, 0, none⟩, 32, ah⟩, ⟨a, c, b⟩] wx (by decide) hg (.inl hN) (recParts hP hH H32.out H8.out HB.out HB8.out (by have := HN.out; omega) bw (Nat.le_of_lt hgt) hPg (by omega)) (by have := HN.out; have := HB.out.len; simp [flat, H32.out]; omega) (by decide) (HT.out.below bw) (by have := World.block_lt_of_cell? w _ (HT.out.1 0 (by decide)); dsimp only at this; omega) (by have := World.block_lt_of_cell? w _ (HT.out.2 0 (by decide)); dsimp only at this; omega)
    have e : flat [⟨some ⟨w.heap.size, 0, none⟩, 32, ah⟩, ⟨a, c, b⟩] = ah ++ b := by simp [flat]
    rw [e] at h
    exact h.mono fun e w' h => ⟨h.1, h.2.1⟩)
  have hi6 := hid (show (Tryz.prog.info? 62).map (·.size) = some (nums .u8 (recH ah b)).toArray.size by rw [List.size_toArray, nums_length]; unfold recH; rw [sha_len]; kernel_rfl)
  have ho6 := hid (show (nums .u8 zz).toArray.size = (nums .u8 (recH ah b)).toArray.size by rw [List.size_toArray, List.size_toArray, nums_length, nums_length, lz.out]; unfold recH; rw [sha_len])
  have h16 := hid (all_oneCell_toArray (nums_oneCell .u8 (recH ah b)))
  refine wp_region_held_drew (S := fun w' => Below w1.heap.size w1 w') (by kernel_rfl) ((Below.refl _ _).drew) (fun hHeld => ?_)
  try simp only [List.size_toArray, List.length_cons, List.length_nil, Nat.reduceAdd, Array.replicate_succ, Array.replicate_zero, List.push_toArray, List.nil_append, List.cons_append]
  refine wpAnyH_take (i := 1) (oi := { dst := some 10, op := Op.slice 62 (Operand.tmp 2) none none none, type := 22, pos := "journal.go:38", after := #[], guard := none }) (v := ?v2001) rfl (by kernel_rfl) (by kernel_rfl) (by kernel_rfl) (fun _ _ _ h => h) (Or.inl ⟨by rfl, ?hy2001⟩) hHeld ?_
  case hy2001 => (intro w hSw; (try dsimp only at hSw); go_simp; (try with_reducible rfl))
  (try simp only [Act.put, List.setIfInBounds_toArray, List.set_cons_zero, List.set_cons_succ])
  refine wpAnyH_take (i := 2) (oi := { dst := some 11, op := Op.move (Operand.tmp 1), type := 22, pos := "journal.go:38", after := #[], guard := none }) (v := ?v2002) rfl (by kernel_rfl) (by kernel_rfl) (by kernel_rfl) (fun _ _ _ h => h) (Or.inl ⟨by rfl, ?hy2002⟩) hHeld ?_
  case hy2002 => (intro w hSw; (try dsimp only at hSw); go_simp; (try with_reducible rfl))
  (try simp only [Act.put, List.setIfInBounds_toArray, List.set_cons_zero, List.set_cons_succ])
  refine wpAnyH_ready (rs := [0, 3, 5]) (by kernel_rfl) (by simp) ?_
  refine AllReadyH.cons (o := { dst := some 9, op := Op.call { callee := Callee.value (Operand.func 41), args := #[Operand.const (Value.string { data := #[109, 111, 110, 101, 121, 101, 114, 47, 114, 101, 99, 111, 114, 100] })], argTypes := #[9] }, type := 92, pos := "journal.go:38", after := #[], guard := none }) rfl (fun K hK => ?_) ?_
  go_simp; refine (newtag_walk nmRec _).mono ?_; rintro e w2 ⟨gt, cur, rfl, hg, hc, hN, b2⟩; have HG := hid hc; have GL := hid (show w1.heap.size ≤ gt from Nat.le_trans hHeld.size hg); have GR := hid hg; have TN := hid hN; have BT := hid b2; have TH := (show True from trivial); clear hg hc hN b2
  refine hK.out _ _ (by first | exact hHeld.trans (BT.out.mono hHeld.size) | exact BT.out | exact hHeld.trans (BT.out.out.mono hHeld.size)) (fun hHeld => ?_)
  clear hK K
  (try simp only [List.setIfInBounds_toArray, List.set_cons_zero])
  refine wpAnyH_ready (rs := [3, 5]) (by kernel_rfl) (by simp) ?_
  refine AllReadyH.cons (o := { dst := some 12, op := Op.buildSlice 39 2 #[(0, Operand.tmp 10), (1, Operand.tmp 11)], type := 39, pos := "journal.go:38", after := #[{ on := 1, ground := Ground.data }, { on := 2, ground := Ground.data }], guard := none }) rfl (fun K hK => ?_) ?_
  go_simp; (first | refine newZ ?_ | refine newZd ?_); intro wp hp bp; have HP := hid hp; have BP := hid bp; clear hp bp
  refine hK.out _ _ (by first | exact hHeld.trans (BP.out.mono hHeld.size) | exact BP.out | exact hHeld.trans (BP.out.out.mono hHeld.size)) (fun hHeld => ?_)
  clear hK K
  (try simp only [List.setIfInBounds_toArray, List.set_cons_zero, List.set_cons_succ])
  refine wpAnyH_ready (rs := [4, 5]) (by kernel_rfl) (by simp) ?_
  refine AllReadyH.cons (o := { dst := some 13, op := Op.call { callee := Callee.value (Operand.func 42), args := #[Operand.tmp 9, Operand.tmp 12], argTypes := #[92, 39] }, type := 62, pos := "journal.go:38", after := #[{ on := 0, ground := Ground.data }, { on := 3, ground := Ground.data }, { on := 0, ground := Ground.chain }], guard := none }) rfl (fun K hK => ?_) ?_
  go_simp; refine (SW gt cur _ _ (by first | exact HG.out | exact heap_keep HG.out BP.out | exact heap_keep HG.out BV.out | exact heap_keep (heap_keep HG.out BP.out) BV.out | exact heap_keep (heap_keep HG.out BV.out) BP.out) TN.out (by first | exact HP.out | exact heap_keep HP.out BT.out | exact heap_keep HP.out BV.out | exact heap_keep (heap_keep HP.out BT.out) BV.out | exact heap_keep (heap_keep HP.out BV.out) BT.out) (heap_keep HA.out hHeld) (B1.out.trans (hHeld.mono (by have := (Array.getElem?_eq_some_iff.1 HR.out).1; omega))) (by have z1 := (Array.getElem?_eq_some_iff.1 HG.out).1; have z2 := (Array.getElem?_eq_some_iff.1 HP.out).1; have z3 := GL.out; have z4 := BP.out.size; have z5 := BT.out.size; have z6 := (Array.getElem?_eq_some_iff.1 HR.out).1; have z7 := hHeld.size; have z8 := GR.out; (try have z9 := BV.out.size); (try have z10 := (Array.getElem?_eq_some_iff.1 HV.out).1); omega) (by have z1 := (Array.getElem?_eq_some_iff.1 HG.out).1; have z2 := (Array.getElem?_eq_some_iff.1 HP.out).1; have z3 := GL.out; have z4 := BP.out.size; have z5 := BT.out.size; have z6 := (Array.getElem?_eq_some_iff.1 HR.out).1; have z7 := hHeld.size; have z8 := GR.out; (try have z9 := BV.out.size); (try have z10 := (Array.getElem?_eq_some_iff.1 HV.out).1); omega)).out.mono ?_; rintro e w5 ⟨rfl, f5⟩; have F5 := hid f5; clear f5
  refine hK.out _ _ (hHeld.trans (F5.out.below GL.out hHeld.size)) (fun hHeld => ?_)
  clear hK K
  (try simp only [List.setIfInBounds_toArray, List.set_cons_zero, List.set_cons_succ])
  refine wpAnyH_ready (rs := [5]) (by kernel_rfl) (by simp) ?_
  refine AllReadyH.cons (o := { dst := some 6, op := Op.alloc 62, type := 0, pos := "journal.go:38", after := #[], guard := none }) rfl (fun K hK => ?_) ?_
  go_simp; (first | refine newZ ?_ | refine newZd ?_); intro wa hpa bpa; have HV := hid hpa; have BV := hid bpa; have BVL := hid hHeld.size; clear hpa bpa
  refine hK.out _ _ (by first | exact hHeld.trans (BV.out.mono hHeld.size) | exact BV.out | exact hHeld.trans (BV.out.out.mono hHeld.size)) (fun hHeld => ?_)
  clear hK K
  (try simp only [List.setIfInBounds_toArray, List.set_cons_zero, List.set_cons_succ])
  refine wpAnyH_ready (rs := [6]) (by kernel_rfl) (by simp) ?_
  refine AllReadyH.cons (o := { dst := none, op := Op.store 62 (Operand.tmp 6) (Operand.tmp 13), type := 0, pos := "journal.go:38", after := #[{ on := 5, ground := Ground.data }, { on := 4, ground := Ground.data }, { on := 4, ground := Ground.chain }, { on := 0, ground := Ground.phase }, { on := 1, ground := Ground.phase }, { on := 2, ground := Ground.phase }, { on := 3, ground := Ground.phase }, { on := 4, ground := Ground.phase }, { on := 5, ground := Ground.phase }], guard := none }) rfl (fun K hK => ?_) ?_
  rw [if_pos (by rfl)]; refine wp_store_row _ _ _ rfl _ (nums .u8 (recH ah b)).toArray rfl rfl _ _ (by first | exact HV.out | exact heap_far HV.out F5.out (by have z1 := (Array.getElem?_eq_some_iff.1 HG.out).1; have z2 := (Array.getElem?_eq_some_iff.1 HP.out).1; have z3 := GL.out; have z4 := BP.out.size; have z5 := BT.out.size; have z6 := (Array.getElem?_eq_some_iff.1 HR.out).1; have z7 := hHeld.size; have z8 := GR.out; (try have z9 := BV.out.size); (try have z10 := (Array.getElem?_eq_some_iff.1 HV.out).1); omega) | exact heap_far (heap_keep HV.out BP.out) F5.out (by have z1 := (Array.getElem?_eq_some_iff.1 HG.out).1; have z2 := (Array.getElem?_eq_some_iff.1 HP.out).1; have z3 := GL.out; have z4 := BP.out.size; have z5 := BT.out.size; have z6 := (Array.getElem?_eq_some_iff.1 HR.out).1; have z7 := hHeld.size; have z8 := GR.out; (try have z9 := BV.out.size); (try have z10 := (Array.getElem?_eq_some_iff.1 HV.out).1); omega) | exact heap_far (heap_keep HV.out BT.out) F5.out (by have z1 := (Array.getElem?_eq_some_iff.1 HG.out).1; have z2 := (Array.getElem?_eq_some_iff.1 HP.out).1; have z3 := GL.out; have z4 := BP.out.size; have z5 := BT.out.size; have z6 := (Array.getElem?_eq_some_iff.1 HR.out).1; have z7 := hHeld.size; have z8 := GR.out; (try have z9 := BV.out.size); (try have z10 := (Array.getElem?_eq_some_iff.1 HV.out).1); omega) | exact heap_far (heap_keep (heap_keep HV.out BT.out) BP.out) F5.out (by have z1 := (Array.getElem?_eq_some_iff.1 HG.out).1; have z2 := (Array.getElem?_eq_some_iff.1 HP.out).1; have z3 := GL.out; have z4 := BP.out.size; have z5 := BT.out.size; have z6 := (Array.getElem?_eq_some_iff.1 HR.out).1; have z7 := hHeld.size; have z8 := GR.out; (try have z9 := BV.out.size); (try have z10 := (Array.getElem?_eq_some_iff.1 HV.out).1); omega) | exact heap_far (heap_keep (heap_keep HV.out BP.out) BT.out) F5.out (by have z1 := (Array.getElem?_eq_some_iff.1 HG.out).1; have z2 := (Array.getElem?_eq_some_iff.1 HP.out).1; have z3 := GL.out; have z4 := BP.out.size; have z5 := BT.out.size; have z6 := (Array.getElem?_eq_some_iff.1 HR.out).1; have z7 := hHeld.size; have z8 := GR.out; (try have z9 := BV.out.size); (try have z10 := (Array.getElem?_eq_some_iff.1 HV.out).1); omega)) hi6.out ho6.out h16.out ?_
  refine hK.out _ _ (below_setRow hHeld BVL.out _) (fun hHeld => ?_)
  clear hK K
  (try simp only [List.setIfInBounds_toArray, List.set_cons_zero, List.set_cons_succ])
  refine wpAnyH_done (by kernel_rfl) ?_ _
  rotate_left
  exact AllReadyH.nil
  exact AllReadyH.nil
  refine AllReadyH.cons (o := { dst := some 6, op := Op.alloc 62, type := 0, pos := "journal.go:38", after := #[], guard := none }) rfl (fun K hK => ?_) ?_
  go_simp; (first | refine newZ ?_ | refine newZd ?_); intro wa hpa bpa; have HV := hid hpa; have BV := hid bpa; have BVL := hid hHeld.size; clear hpa bpa
  refine hK.out _ _ (by first | exact hHeld.trans (BV.out.mono hHeld.size) | exact BV.out | exact hHeld.trans (BV.out.out.mono hHeld.size)) (fun hHeld => ?_)
  clear hK K
  (try simp only [List.setIfInBounds_toArray, List.set_cons_zero, List.set_cons_succ])
  refine wpAnyH_ready (rs := [4]) (by kernel_rfl) (by simp) ?_
  refine AllReadyH.cons (o := { dst := some 13, op := Op.call { callee := Callee.value (Operand.func 42), args := #[Operand.tmp 9, Operand.tmp 12], argTypes := #[92, 39] }, type := 62, pos := "journal.go:38", after := #[{ on := 0, ground := Ground.data }, { on := 3, ground := Ground.data }, { on := 0, ground := Ground.chain }], guard := none }) rfl (fun K hK => ?_) ?_
  go_simp; refine (SW gt cur _ _ (by first | exact HG.out | exact heap_keep HG.out BP.out | exact heap_keep HG.out BV.out | exact heap_keep (heap_keep HG.out BP.out) BV.out | exact heap_keep (heap_keep HG.out BV.out) BP.out) TN.out (by first | exact HP.out | exact heap_keep HP.out BT.out | exact heap_keep HP.out BV.out | exact heap_keep (heap_keep HP.out BT.out) BV.out | exact heap_keep (heap_keep HP.out BV.out) BT.out) (heap_keep HA.out hHeld) (B1.out.trans (hHeld.mono (by have := (Array.getElem?_eq_some_iff.1 HR.out).1; omega))) (by have z1 := (Array.getElem?_eq_some_iff.1 HG.out).1; have z2 := (Array.getElem?_eq_some_iff.1 HP.out).1; have z3 := GL.out; have z4 := BP.out.size; have z5 := BT.out.size; have z6 := (Array.getElem?_eq_some_iff.1 HR.out).1; have z7 := hHeld.size; have z8 := GR.out; (try have z9 := BV.out.size); (try have z10 := (Array.getElem?_eq_some_iff.1 HV.out).1); omega) (by have z1 := (Array.getElem?_eq_some_iff.1 HG.out).1; have z2 := (Array.getElem?_eq_some_iff.1 HP.out).1; have z3 := GL.out; have z4 := BP.out.size; have z5 := BT.out.size; have z6 := (Array.getElem?_eq_some_iff.1 HR.out).1; have z7 := hHeld.size; have z8 := GR.out; (try have z9 := BV.out.size); (try have z10 := (Array.getElem?_eq_some_iff.1 HV.out).1); omega)).out.mono ?_; rintro e w5 ⟨rfl, f5⟩; have F5 := hid f5; clear f5
  refine hK.out _ _ (hHeld.trans (F5.out.below GL.out hHeld.size)) (fun hHeld => ?_)
  clear hK K
  (try simp only [List.setIfInBounds_toArray, List.set_cons_zero, List.set_cons_succ])
  refine wpAnyH_ready (rs := [6]) (by kernel_rfl) (by simp) ?_
  refine AllReadyH.cons (o := { dst := none, op := Op.store 62 (Operand.tmp 6) (Operand.tmp 13), type := 0, pos := "journal.go:38", after := #[{ on := 5, ground := Ground.data }, { on := 4, ground := Ground.data }, { on := 4, ground := Ground.chain }, { on := 0, ground := Ground.phase }, { on := 1, ground := Ground.phase }, { on := 2, ground := Ground.phase }, { on := 3, ground := Ground.phase }, { on := 4, ground := Ground.phase }, { on := 5, ground := Ground.phase }], guard := none }) rfl (fun K hK => ?_) ?_
  rw [if_pos (by rfl)]; refine wp_store_row _ _ _ rfl _ (nums .u8 (recH ah b)).toArray rfl rfl _ _ (by first | exact HV.out | exact heap_far HV.out F5.out (by have z1 := (Array.getElem?_eq_some_iff.1 HG.out).1; have z2 := (Array.getElem?_eq_some_iff.1 HP.out).1; have z3 := GL.out; have z4 := BP.out.size; have z5 := BT.out.size; have z6 := (Array.getElem?_eq_some_iff.1 HR.out).1; have z7 := hHeld.size; have z8 := GR.out; (try have z9 := BV.out.size); (try have z10 := (Array.getElem?_eq_some_iff.1 HV.out).1); omega) | exact heap_far (heap_keep HV.out BP.out) F5.out (by have z1 := (Array.getElem?_eq_some_iff.1 HG.out).1; have z2 := (Array.getElem?_eq_some_iff.1 HP.out).1; have z3 := GL.out; have z4 := BP.out.size; have z5 := BT.out.size; have z6 := (Array.getElem?_eq_some_iff.1 HR.out).1; have z7 := hHeld.size; have z8 := GR.out; (try have z9 := BV.out.size); (try have z10 := (Array.getElem?_eq_some_iff.1 HV.out).1); omega) | exact heap_far (heap_keep HV.out BT.out) F5.out (by have z1 := (Array.getElem?_eq_some_iff.1 HG.out).1; have z2 := (Array.getElem?_eq_some_iff.1 HP.out).1; have z3 := GL.out; have z4 := BP.out.size; have z5 := BT.out.size; have z6 := (Array.getElem?_eq_some_iff.1 HR.out).1; have z7 := hHeld.size; have z8 := GR.out; (try have z9 := BV.out.size); (try have z10 := (Array.getElem?_eq_some_iff.1 HV.out).1); omega) | exact heap_far (heap_keep (heap_keep HV.out BT.out) BP.out) F5.out (by have z1 := (Array.getElem?_eq_some_iff.1 HG.out).1; have z2 := (Array.getElem?_eq_some_iff.1 HP.out).1; have z3 := GL.out; have z4 := BP.out.size; have z5 := BT.out.size; have z6 := (Array.getElem?_eq_some_iff.1 HR.out).1; have z7 := hHeld.size; have z8 := GR.out; (try have z9 := BV.out.size); (try have z10 := (Array.getElem?_eq_some_iff.1 HV.out).1); omega) | exact heap_far (heap_keep (heap_keep HV.out BP.out) BT.out) F5.out (by have z1 := (Array.getElem?_eq_some_iff.1 HG.out).1; have z2 := (Array.getElem?_eq_some_iff.1 HP.out).1; have z3 := GL.out; have z4 := BP.out.size; have z5 := BT.out.size; have z6 := (Array.getElem?_eq_some_iff.1 HR.out).1; have z7 := hHeld.size; have z8 := GR.out; (try have z9 := BV.out.size); (try have z10 := (Array.getElem?_eq_some_iff.1 HV.out).1); omega)) hi6.out ho6.out h16.out ?_
  refine hK.out _ _ (below_setRow hHeld BVL.out _) (fun hHeld => ?_)
  clear hK K
  (try simp only [List.setIfInBounds_toArray, List.set_cons_zero, List.set_cons_succ])
  refine wpAnyH_done (by kernel_rfl) ?_ _
  rotate_left
  exact AllReadyH.nil
  exact AllReadyH.nil
  exact AllReadyH.nil
  refine AllReadyH.cons (o := { dst := some 6, op := Op.alloc 62, type := 0, pos := "journal.go:38", after := #[], guard := none }) rfl (fun K hK => ?_) ?_
  go_simp; (first | refine newZ ?_ | refine newZd ?_); intro wa hpa bpa; have HV := hid hpa; have BV := hid bpa; have BVL := hid hHeld.size; clear hpa bpa
  refine hK.out _ _ (by first | exact hHeld.trans (BV.out.mono hHeld.size) | exact BV.out | exact hHeld.trans (BV.out.out.mono hHeld.size)) (fun hHeld => ?_)
  clear hK K
  (try simp only [List.setIfInBounds_toArray, List.set_cons_zero, List.set_cons_succ])
  refine wpAnyH_ready (rs := [3]) (by kernel_rfl) (by simp) ?_
  refine AllReadyH.cons (o := { dst := some 12, op := Op.buildSlice 39 2 #[(0, Operand.tmp 10), (1, Operand.tmp 11)], type := 39, pos := "journal.go:38", after := #[{ on := 1, ground := Ground.data }, { on := 2, ground := Ground.data }], guard := none }) rfl (fun K hK => ?_) ?_
  go_simp; (first | refine newZ ?_ | refine newZd ?_); intro wp hp bp; have HP := hid hp; have BP := hid bp; clear hp bp
  refine hK.out _ _ (by first | exact hHeld.trans (BP.out.mono hHeld.size) | exact BP.out | exact hHeld.trans (BP.out.out.mono hHeld.size)) (fun hHeld => ?_)
  clear hK K
  (try simp only [List.setIfInBounds_toArray, List.set_cons_zero, List.set_cons_succ])
  refine wpAnyH_ready (rs := [4]) (by kernel_rfl) (by simp) ?_
  refine AllReadyH.cons (o := { dst := some 13, op := Op.call { callee := Callee.value (Operand.func 42), args := #[Operand.tmp 9, Operand.tmp 12], argTypes := #[92, 39] }, type := 62, pos := "journal.go:38", after := #[{ on := 0, ground := Ground.data }, { on := 3, ground := Ground.data }, { on := 0, ground := Ground.chain }], guard := none }) rfl (fun K hK => ?_) ?_
  go_simp; refine (SW gt cur _ _ (by first | exact HG.out | exact heap_keep HG.out BP.out | exact heap_keep HG.out BV.out | exact heap_keep (heap_keep HG.out BP.out) BV.out | exact heap_keep (heap_keep HG.out BV.out) BP.out) TN.out (by first | exact HP.out | exact heap_keep HP.out BT.out | exact heap_keep HP.out BV.out | exact heap_keep (heap_keep HP.out BT.out) BV.out | exact heap_keep (heap_keep HP.out BV.out) BT.out) (heap_keep HA.out hHeld) (B1.out.trans (hHeld.mono (by have := (Array.getElem?_eq_some_iff.1 HR.out).1; omega))) (by have z1 := (Array.getElem?_eq_some_iff.1 HG.out).1; have z2 := (Array.getElem?_eq_some_iff.1 HP.out).1; have z3 := GL.out; have z4 := BP.out.size; have z5 := BT.out.size; have z6 := (Array.getElem?_eq_some_iff.1 HR.out).1; have z7 := hHeld.size; have z8 := GR.out; (try have z9 := BV.out.size); (try have z10 := (Array.getElem?_eq_some_iff.1 HV.out).1); omega) (by have z1 := (Array.getElem?_eq_some_iff.1 HG.out).1; have z2 := (Array.getElem?_eq_some_iff.1 HP.out).1; have z3 := GL.out; have z4 := BP.out.size; have z5 := BT.out.size; have z6 := (Array.getElem?_eq_some_iff.1 HR.out).1; have z7 := hHeld.size; have z8 := GR.out; (try have z9 := BV.out.size); (try have z10 := (Array.getElem?_eq_some_iff.1 HV.out).1); omega)).out.mono ?_; rintro e w5 ⟨rfl, f5⟩; have F5 := hid f5; clear f5
  refine hK.out _ _ (hHeld.trans (F5.out.below GL.out hHeld.size)) (fun hHeld => ?_)
  clear hK K
  (try simp only [List.setIfInBounds_toArray, List.set_cons_zero, List.set_cons_succ])
  refine wpAnyH_ready (rs := [6]) (by kernel_rfl) (by simp) ?_
  refine AllReadyH.cons (o := { dst := none, op := Op.store 62 (Operand.tmp 6) (Operand.tmp 13), type := 0, pos := "journal.go:38", after := #[{ on := 5, ground := Ground.data }, { on := 4, ground := Ground.data }, { on := 4, ground := Ground.chain }, { on := 0, ground := Ground.phase }, { on := 1, ground := Ground.phase }, { on := 2, ground := Ground.phase }, { on := 3, ground := Ground.phase }, { on := 4, ground := Ground.phase }, { on := 5, ground := Ground.phase }], guard := none }) rfl (fun K hK => ?_) ?_
  rw [if_pos (by rfl)]; refine wp_store_row _ _ _ rfl _ (nums .u8 (recH ah b)).toArray rfl rfl _ _ (by first | exact HV.out | exact heap_far HV.out F5.out (by have z1 := (Array.getElem?_eq_some_iff.1 HG.out).1; have z2 := (Array.getElem?_eq_some_iff.1 HP.out).1; have z3 := GL.out; have z4 := BP.out.size; have z5 := BT.out.size; have z6 := (Array.getElem?_eq_some_iff.1 HR.out).1; have z7 := hHeld.size; have z8 := GR.out; (try have z9 := BV.out.size); (try have z10 := (Array.getElem?_eq_some_iff.1 HV.out).1); omega) | exact heap_far (heap_keep HV.out BP.out) F5.out (by have z1 := (Array.getElem?_eq_some_iff.1 HG.out).1; have z2 := (Array.getElem?_eq_some_iff.1 HP.out).1; have z3 := GL.out; have z4 := BP.out.size; have z5 := BT.out.size; have z6 := (Array.getElem?_eq_some_iff.1 HR.out).1; have z7 := hHeld.size; have z8 := GR.out; (try have z9 := BV.out.size); (try have z10 := (Array.getElem?_eq_some_iff.1 HV.out).1); omega) | exact heap_far (heap_keep HV.out BT.out) F5.out (by have z1 := (Array.getElem?_eq_some_iff.1 HG.out).1; have z2 := (Array.getElem?_eq_some_iff.1 HP.out).1; have z3 := GL.out; have z4 := BP.out.size; have z5 := BT.out.size; have z6 := (Array.getElem?_eq_some_iff.1 HR.out).1; have z7 := hHeld.size; have z8 := GR.out; (try have z9 := BV.out.size); (try have z10 := (Array.getElem?_eq_some_iff.1 HV.out).1); omega) | exact heap_far (heap_keep (heap_keep HV.out BT.out) BP.out) F5.out (by have z1 := (Array.getElem?_eq_some_iff.1 HG.out).1; have z2 := (Array.getElem?_eq_some_iff.1 HP.out).1; have z3 := GL.out; have z4 := BP.out.size; have z5 := BT.out.size; have z6 := (Array.getElem?_eq_some_iff.1 HR.out).1; have z7 := hHeld.size; have z8 := GR.out; (try have z9 := BV.out.size); (try have z10 := (Array.getElem?_eq_some_iff.1 HV.out).1); omega) | exact heap_far (heap_keep (heap_keep HV.out BP.out) BT.out) F5.out (by have z1 := (Array.getElem?_eq_some_iff.1 HG.out).1; have z2 := (Array.getElem?_eq_some_iff.1 HP.out).1; have z3 := GL.out; have z4 := BP.out.size; have z5 := BT.out.size; have z6 := (Array.getElem?_eq_some_iff.1 HR.out).1; have z7 := hHeld.size; have z8 := GR.out; (try have z9 := BV.out.size); (try have z10 := (Array.getElem?_eq_some_iff.1 HV.out).1); omega)) hi6.out ho6.out h16.out ?_
  refine hK.out _ _ (below_setRow hHeld BVL.out _) (fun hHeld => ?_)
  clear hK K
  (try simp only [List.setIfInBounds_toArray, List.set_cons_zero, List.set_cons_succ])
  refine wpAnyH_done (by kernel_rfl) ?_ _
  rotate_left
  exact AllReadyH.nil
  exact AllReadyH.nil
  exact AllReadyH.nil
  exact AllReadyH.nil
  refine AllReadyH.cons (o := { dst := some 12, op := Op.buildSlice 39 2 #[(0, Operand.tmp 10), (1, Operand.tmp 11)], type := 39, pos := "journal.go:38", after := #[{ on := 1, ground := Ground.data }, { on := 2, ground := Ground.data }], guard := none }) rfl (fun K hK => ?_) ?_
  go_simp; (first | refine newZ ?_ | refine newZd ?_); intro wp hp bp; have HP := hid hp; have BP := hid bp; clear hp bp
  refine hK.out _ _ (by first | exact hHeld.trans (BP.out.mono hHeld.size) | exact BP.out | exact hHeld.trans (BP.out.out.mono hHeld.size)) (fun hHeld => ?_)
  clear hK K
  (try simp only [List.setIfInBounds_toArray, List.set_cons_zero, List.set_cons_succ])
  refine wpAnyH_ready (rs := [0, 5]) (by kernel_rfl) (by simp) ?_
  refine AllReadyH.cons (o := { dst := some 9, op := Op.call { callee := Callee.value (Operand.func 41), args := #[Operand.const (Value.string { data := #[109, 111, 110, 101, 121, 101, 114, 47, 114, 101, 99, 111, 114, 100] })], argTypes := #[9] }, type := 92, pos := "journal.go:38", after := #[], guard := none }) rfl (fun K hK => ?_) ?_
  go_simp; refine (newtag_walk nmRec _).mono ?_; rintro e w2 ⟨gt, cur, rfl, hg, hc, hN, b2⟩; have HG := hid hc; have GL := hid (show w1.heap.size ≤ gt from Nat.le_trans hHeld.size hg); have GR := hid hg; have TN := hid hN; have BT := hid b2; have TH := (show True from trivial); clear hg hc hN b2
  refine hK.out _ _ (by first | exact hHeld.trans (BT.out.mono hHeld.size) | exact BT.out | exact hHeld.trans (BT.out.out.mono hHeld.size)) (fun hHeld => ?_)
  clear hK K
  (try simp only [List.setIfInBounds_toArray, List.set_cons_zero])
  refine wpAnyH_ready (rs := [4, 5]) (by kernel_rfl) (by simp) ?_
  refine AllReadyH.cons (o := { dst := some 13, op := Op.call { callee := Callee.value (Operand.func 42), args := #[Operand.tmp 9, Operand.tmp 12], argTypes := #[92, 39] }, type := 62, pos := "journal.go:38", after := #[{ on := 0, ground := Ground.data }, { on := 3, ground := Ground.data }, { on := 0, ground := Ground.chain }], guard := none }) rfl (fun K hK => ?_) ?_
  go_simp; refine (SW gt cur _ _ (by first | exact HG.out | exact heap_keep HG.out BP.out | exact heap_keep HG.out BV.out | exact heap_keep (heap_keep HG.out BP.out) BV.out | exact heap_keep (heap_keep HG.out BV.out) BP.out) TN.out (by first | exact HP.out | exact heap_keep HP.out BT.out | exact heap_keep HP.out BV.out | exact heap_keep (heap_keep HP.out BT.out) BV.out | exact heap_keep (heap_keep HP.out BV.out) BT.out) (heap_keep HA.out hHeld) (B1.out.trans (hHeld.mono (by have := (Array.getElem?_eq_some_iff.1 HR.out).1; omega))) (by have z1 := (Array.getElem?_eq_some_iff.1 HG.out).1; have z2 := (Array.getElem?_eq_some_iff.1 HP.out).1; have z3 := GL.out; have z4 := BP.out.size; have z5 := BT.out.size; have z6 := (Array.getElem?_eq_some_iff.1 HR.out).1; have z7 := hHeld.size; have z8 := GR.out; (try have z9 := BV.out.size); (try have z10 := (Array.getElem?_eq_some_iff.1 HV.out).1); omega) (by have z1 := (Array.getElem?_eq_some_iff.1 HG.out).1; have z2 := (Array.getElem?_eq_some_iff.1 HP.out).1; have z3 := GL.out; have z4 := BP.out.size; have z5 := BT.out.size; have z6 := (Array.getElem?_eq_some_iff.1 HR.out).1; have z7 := hHeld.size; have z8 := GR.out; (try have z9 := BV.out.size); (try have z10 := (Array.getElem?_eq_some_iff.1 HV.out).1); omega)).out.mono ?_; rintro e w5 ⟨rfl, f5⟩; have F5 := hid f5; clear f5
  refine hK.out _ _ (hHeld.trans (F5.out.below GL.out hHeld.size)) (fun hHeld => ?_)
  clear hK K
  (try simp only [List.setIfInBounds_toArray, List.set_cons_zero, List.set_cons_succ])
  refine wpAnyH_ready (rs := [5]) (by kernel_rfl) (by simp) ?_
  refine AllReadyH.cons (o := { dst := some 6, op := Op.alloc 62, type := 0, pos := "journal.go:38", after := #[], guard := none }) rfl (fun K hK => ?_) ?_
  go_simp; (first | refine newZ ?_ | refine newZd ?_); intro wa hpa bpa; have HV := hid hpa; have BV := hid bpa; have BVL := hid hHeld.size; clear hpa bpa
  refine hK.out _ _ (by first | exact hHeld.trans (BV.out.mono hHeld.size) | exact BV.out | exact hHeld.trans (BV.out.out.mono hHeld.size)) (fun hHeld => ?_)
  clear hK K
  (try simp only [List.setIfInBounds_toArray, List.set_cons_zero, List.set_cons_succ])
  refine wpAnyH_ready (rs := [6]) (by kernel_rfl) (by simp) ?_
  refine AllReadyH.cons (o := { dst := none, op := Op.store 62 (Operand.tmp 6) (Operand.tmp 13), type := 0, pos := "journal.go:38", after := #[{ on := 5, ground := Ground.data }, { on := 4, ground := Ground.data }, { on := 4, ground := Ground.chain }, { on := 0, ground := Ground.phase }, { on := 1, ground := Ground.phase }, { on := 2, ground := Ground.phase }, { on := 3, ground := Ground.phase }, { on := 4, ground := Ground.phase }, { on := 5, ground := Ground.phase }], guard := none }) rfl (fun K hK => ?_) ?_
  rw [if_pos (by rfl)]; refine wp_store_row _ _ _ rfl _ (nums .u8 (recH ah b)).toArray rfl rfl _ _ (by first | exact HV.out | exact heap_far HV.out F5.out (by have z1 := (Array.getElem?_eq_some_iff.1 HG.out).1; have z2 := (Array.getElem?_eq_some_iff.1 HP.out).1; have z3 := GL.out; have z4 := BP.out.size; have z5 := BT.out.size; have z6 := (Array.getElem?_eq_some_iff.1 HR.out).1; have z7 := hHeld.size; have z8 := GR.out; (try have z9 := BV.out.size); (try have z10 := (Array.getElem?_eq_some_iff.1 HV.out).1); omega) | exact heap_far (heap_keep HV.out BP.out) F5.out (by have z1 := (Array.getElem?_eq_some_iff.1 HG.out).1; have z2 := (Array.getElem?_eq_some_iff.1 HP.out).1; have z3 := GL.out; have z4 := BP.out.size; have z5 := BT.out.size; have z6 := (Array.getElem?_eq_some_iff.1 HR.out).1; have z7 := hHeld.size; have z8 := GR.out; (try have z9 := BV.out.size); (try have z10 := (Array.getElem?_eq_some_iff.1 HV.out).1); omega) | exact heap_far (heap_keep HV.out BT.out) F5.out (by have z1 := (Array.getElem?_eq_some_iff.1 HG.out).1; have z2 := (Array.getElem?_eq_some_iff.1 HP.out).1; have z3 := GL.out; have z4 := BP.out.size; have z5 := BT.out.size; have z6 := (Array.getElem?_eq_some_iff.1 HR.out).1; have z7 := hHeld.size; have z8 := GR.out; (try have z9 := BV.out.size); (try have z10 := (Array.getElem?_eq_some_iff.1 HV.out).1); omega) | exact heap_far (heap_keep (heap_keep HV.out BT.out) BP.out) F5.out (by have z1 := (Array.getElem?_eq_some_iff.1 HG.out).1; have z2 := (Array.getElem?_eq_some_iff.1 HP.out).1; have z3 := GL.out; have z4 := BP.out.size; have z5 := BT.out.size; have z6 := (Array.getElem?_eq_some_iff.1 HR.out).1; have z7 := hHeld.size; have z8 := GR.out; (try have z9 := BV.out.size); (try have z10 := (Array.getElem?_eq_some_iff.1 HV.out).1); omega) | exact heap_far (heap_keep (heap_keep HV.out BP.out) BT.out) F5.out (by have z1 := (Array.getElem?_eq_some_iff.1 HG.out).1; have z2 := (Array.getElem?_eq_some_iff.1 HP.out).1; have z3 := GL.out; have z4 := BP.out.size; have z5 := BT.out.size; have z6 := (Array.getElem?_eq_some_iff.1 HR.out).1; have z7 := hHeld.size; have z8 := GR.out; (try have z9 := BV.out.size); (try have z10 := (Array.getElem?_eq_some_iff.1 HV.out).1); omega)) hi6.out ho6.out h16.out ?_
  refine hK.out _ _ (below_setRow hHeld BVL.out _) (fun hHeld => ?_)
  clear hK K
  (try simp only [List.setIfInBounds_toArray, List.set_cons_zero, List.set_cons_succ])
  refine wpAnyH_done (by kernel_rfl) ?_ _
  rotate_left
  exact AllReadyH.nil
  exact AllReadyH.nil
  refine AllReadyH.cons (o := { dst := some 6, op := Op.alloc 62, type := 0, pos := "journal.go:38", after := #[], guard := none }) rfl (fun K hK => ?_) ?_
  go_simp; (first | refine newZ ?_ | refine newZd ?_); intro wa hpa bpa; have HV := hid hpa; have BV := hid bpa; have BVL := hid hHeld.size; clear hpa bpa
  refine hK.out _ _ (by first | exact hHeld.trans (BV.out.mono hHeld.size) | exact BV.out | exact hHeld.trans (BV.out.out.mono hHeld.size)) (fun hHeld => ?_)
  clear hK K
  (try simp only [List.setIfInBounds_toArray, List.set_cons_zero, List.set_cons_succ])
  refine wpAnyH_ready (rs := [4]) (by kernel_rfl) (by simp) ?_
  refine AllReadyH.cons (o := { dst := some 13, op := Op.call { callee := Callee.value (Operand.func 42), args := #[Operand.tmp 9, Operand.tmp 12], argTypes := #[92, 39] }, type := 62, pos := "journal.go:38", after := #[{ on := 0, ground := Ground.data }, { on := 3, ground := Ground.data }, { on := 0, ground := Ground.chain }], guard := none }) rfl (fun K hK => ?_) ?_
  go_simp; refine (SW gt cur _ _ (by first | exact HG.out | exact heap_keep HG.out BP.out | exact heap_keep HG.out BV.out | exact heap_keep (heap_keep HG.out BP.out) BV.out | exact heap_keep (heap_keep HG.out BV.out) BP.out) TN.out (by first | exact HP.out | exact heap_keep HP.out BT.out | exact heap_keep HP.out BV.out | exact heap_keep (heap_keep HP.out BT.out) BV.out | exact heap_keep (heap_keep HP.out BV.out) BT.out) (heap_keep HA.out hHeld) (B1.out.trans (hHeld.mono (by have := (Array.getElem?_eq_some_iff.1 HR.out).1; omega))) (by have z1 := (Array.getElem?_eq_some_iff.1 HG.out).1; have z2 := (Array.getElem?_eq_some_iff.1 HP.out).1; have z3 := GL.out; have z4 := BP.out.size; have z5 := BT.out.size; have z6 := (Array.getElem?_eq_some_iff.1 HR.out).1; have z7 := hHeld.size; have z8 := GR.out; (try have z9 := BV.out.size); (try have z10 := (Array.getElem?_eq_some_iff.1 HV.out).1); omega) (by have z1 := (Array.getElem?_eq_some_iff.1 HG.out).1; have z2 := (Array.getElem?_eq_some_iff.1 HP.out).1; have z3 := GL.out; have z4 := BP.out.size; have z5 := BT.out.size; have z6 := (Array.getElem?_eq_some_iff.1 HR.out).1; have z7 := hHeld.size; have z8 := GR.out; (try have z9 := BV.out.size); (try have z10 := (Array.getElem?_eq_some_iff.1 HV.out).1); omega)).out.mono ?_; rintro e w5 ⟨rfl, f5⟩; have F5 := hid f5; clear f5
  refine hK.out _ _ (hHeld.trans (F5.out.below GL.out hHeld.size)) (fun hHeld => ?_)
  clear hK K
  (try simp only [List.setIfInBounds_toArray, List.set_cons_zero, List.set_cons_succ])
  refine wpAnyH_ready (rs := [6]) (by kernel_rfl) (by simp) ?_
  refine AllReadyH.cons (o := { dst := none, op := Op.store 62 (Operand.tmp 6) (Operand.tmp 13), type := 0, pos := "journal.go:38", after := #[{ on := 5, ground := Ground.data }, { on := 4, ground := Ground.data }, { on := 4, ground := Ground.chain }, { on := 0, ground := Ground.phase }, { on := 1, ground := Ground.phase }, { on := 2, ground := Ground.phase }, { on := 3, ground := Ground.phase }, { on := 4, ground := Ground.phase }, { on := 5, ground := Ground.phase }], guard := none }) rfl (fun K hK => ?_) ?_
  rw [if_pos (by rfl)]; refine wp_store_row _ _ _ rfl _ (nums .u8 (recH ah b)).toArray rfl rfl _ _ (by first | exact HV.out | exact heap_far HV.out F5.out (by have z1 := (Array.getElem?_eq_some_iff.1 HG.out).1; have z2 := (Array.getElem?_eq_some_iff.1 HP.out).1; have z3 := GL.out; have z4 := BP.out.size; have z5 := BT.out.size; have z6 := (Array.getElem?_eq_some_iff.1 HR.out).1; have z7 := hHeld.size; have z8 := GR.out; (try have z9 := BV.out.size); (try have z10 := (Array.getElem?_eq_some_iff.1 HV.out).1); omega) | exact heap_far (heap_keep HV.out BP.out) F5.out (by have z1 := (Array.getElem?_eq_some_iff.1 HG.out).1; have z2 := (Array.getElem?_eq_some_iff.1 HP.out).1; have z3 := GL.out; have z4 := BP.out.size; have z5 := BT.out.size; have z6 := (Array.getElem?_eq_some_iff.1 HR.out).1; have z7 := hHeld.size; have z8 := GR.out; (try have z9 := BV.out.size); (try have z10 := (Array.getElem?_eq_some_iff.1 HV.out).1); omega) | exact heap_far (heap_keep HV.out BT.out) F5.out (by have z1 := (Array.getElem?_eq_some_iff.1 HG.out).1; have z2 := (Array.getElem?_eq_some_iff.1 HP.out).1; have z3 := GL.out; have z4 := BP.out.size; have z5 := BT.out.size; have z6 := (Array.getElem?_eq_some_iff.1 HR.out).1; have z7 := hHeld.size; have z8 := GR.out; (try have z9 := BV.out.size); (try have z10 := (Array.getElem?_eq_some_iff.1 HV.out).1); omega) | exact heap_far (heap_keep (heap_keep HV.out BT.out) BP.out) F5.out (by have z1 := (Array.getElem?_eq_some_iff.1 HG.out).1; have z2 := (Array.getElem?_eq_some_iff.1 HP.out).1; have z3 := GL.out; have z4 := BP.out.size; have z5 := BT.out.size; have z6 := (Array.getElem?_eq_some_iff.1 HR.out).1; have z7 := hHeld.size; have z8 := GR.out; (try have z9 := BV.out.size); (try have z10 := (Array.getElem?_eq_some_iff.1 HV.out).1); omega) | exact heap_far (heap_keep (heap_keep HV.out BP.out) BT.out) F5.out (by have z1 := (Array.getElem?_eq_some_iff.1 HG.out).1; have z2 := (Array.getElem?_eq_some_iff.1 HP.out).1; have z3 := GL.out; have z4 := BP.out.size; have z5 := BT.out.size; have z6 := (Array.getElem?_eq_some_iff.1 HR.out).1; have z7 := hHeld.size; have z8 := GR.out; (try have z9 := BV.out.size); (try have z10 := (Array.getElem?_eq_some_iff.1 HV.out).1); omega)) hi6.out ho6.out h16.out ?_
  refine hK.out _ _ (below_setRow hHeld BVL.out _) (fun hHeld => ?_)
  clear hK K
  (try simp only [List.setIfInBounds_toArray, List.set_cons_zero, List.set_cons_succ])
  refine wpAnyH_done (by kernel_rfl) ?_ _
  rotate_left
  exact AllReadyH.nil
  exact AllReadyH.nil
  exact AllReadyH.nil
  refine AllReadyH.cons (o := { dst := some 6, op := Op.alloc 62, type := 0, pos := "journal.go:38", after := #[], guard := none }) rfl (fun K hK => ?_) ?_
  go_simp; (first | refine newZ ?_ | refine newZd ?_); intro wa hpa bpa; have HV := hid hpa; have BV := hid bpa; have BVL := hid hHeld.size; clear hpa bpa
  refine hK.out _ _ (by first | exact hHeld.trans (BV.out.mono hHeld.size) | exact BV.out | exact hHeld.trans (BV.out.out.mono hHeld.size)) (fun hHeld => ?_)
  clear hK K
  (try simp only [List.setIfInBounds_toArray, List.set_cons_zero, List.set_cons_succ])
  refine wpAnyH_ready (rs := [0]) (by kernel_rfl) (by simp) ?_
  refine AllReadyH.cons (o := { dst := some 9, op := Op.call { callee := Callee.value (Operand.func 41), args := #[Operand.const (Value.string { data := #[109, 111, 110, 101, 121, 101, 114, 47, 114, 101, 99, 111, 114, 100] })], argTypes := #[9] }, type := 92, pos := "journal.go:38", after := #[], guard := none }) rfl (fun K hK => ?_) ?_
  go_simp; refine (newtag_walk nmRec _).mono ?_; rintro e w2 ⟨gt, cur, rfl, hg, hc, hN, b2⟩; have HG := hid hc; have GL := hid (show w1.heap.size ≤ gt from Nat.le_trans hHeld.size hg); have GR := hid hg; have TN := hid hN; have BT := hid b2; have TH := (show True from trivial); clear hg hc hN b2
  refine hK.out _ _ (by first | exact hHeld.trans (BT.out.mono hHeld.size) | exact BT.out | exact hHeld.trans (BT.out.out.mono hHeld.size)) (fun hHeld => ?_)
  clear hK K
  (try simp only [List.setIfInBounds_toArray, List.set_cons_zero])
  refine wpAnyH_ready (rs := [4]) (by kernel_rfl) (by simp) ?_
  refine AllReadyH.cons (o := { dst := some 13, op := Op.call { callee := Callee.value (Operand.func 42), args := #[Operand.tmp 9, Operand.tmp 12], argTypes := #[92, 39] }, type := 62, pos := "journal.go:38", after := #[{ on := 0, ground := Ground.data }, { on := 3, ground := Ground.data }, { on := 0, ground := Ground.chain }], guard := none }) rfl (fun K hK => ?_) ?_
  go_simp; refine (SW gt cur _ _ (by first | exact HG.out | exact heap_keep HG.out BP.out | exact heap_keep HG.out BV.out | exact heap_keep (heap_keep HG.out BP.out) BV.out | exact heap_keep (heap_keep HG.out BV.out) BP.out) TN.out (by first | exact HP.out | exact heap_keep HP.out BT.out | exact heap_keep HP.out BV.out | exact heap_keep (heap_keep HP.out BT.out) BV.out | exact heap_keep (heap_keep HP.out BV.out) BT.out) (heap_keep HA.out hHeld) (B1.out.trans (hHeld.mono (by have := (Array.getElem?_eq_some_iff.1 HR.out).1; omega))) (by have z1 := (Array.getElem?_eq_some_iff.1 HG.out).1; have z2 := (Array.getElem?_eq_some_iff.1 HP.out).1; have z3 := GL.out; have z4 := BP.out.size; have z5 := BT.out.size; have z6 := (Array.getElem?_eq_some_iff.1 HR.out).1; have z7 := hHeld.size; have z8 := GR.out; (try have z9 := BV.out.size); (try have z10 := (Array.getElem?_eq_some_iff.1 HV.out).1); omega) (by have z1 := (Array.getElem?_eq_some_iff.1 HG.out).1; have z2 := (Array.getElem?_eq_some_iff.1 HP.out).1; have z3 := GL.out; have z4 := BP.out.size; have z5 := BT.out.size; have z6 := (Array.getElem?_eq_some_iff.1 HR.out).1; have z7 := hHeld.size; have z8 := GR.out; (try have z9 := BV.out.size); (try have z10 := (Array.getElem?_eq_some_iff.1 HV.out).1); omega)).out.mono ?_; rintro e w5 ⟨rfl, f5⟩; have F5 := hid f5; clear f5
  refine hK.out _ _ (hHeld.trans (F5.out.below GL.out hHeld.size)) (fun hHeld => ?_)
  clear hK K
  (try simp only [List.setIfInBounds_toArray, List.set_cons_zero, List.set_cons_succ])
  refine wpAnyH_ready (rs := [6]) (by kernel_rfl) (by simp) ?_
  refine AllReadyH.cons (o := { dst := none, op := Op.store 62 (Operand.tmp 6) (Operand.tmp 13), type := 0, pos := "journal.go:38", after := #[{ on := 5, ground := Ground.data }, { on := 4, ground := Ground.data }, { on := 4, ground := Ground.chain }, { on := 0, ground := Ground.phase }, { on := 1, ground := Ground.phase }, { on := 2, ground := Ground.phase }, { on := 3, ground := Ground.phase }, { on := 4, ground := Ground.phase }, { on := 5, ground := Ground.phase }], guard := none }) rfl (fun K hK => ?_) ?_
  rw [if_pos (by rfl)]; refine wp_store_row _ _ _ rfl _ (nums .u8 (recH ah b)).toArray rfl rfl _ _ (by first | exact HV.out | exact heap_far HV.out F5.out (by have z1 := (Array.getElem?_eq_some_iff.1 HG.out).1; have z2 := (Array.getElem?_eq_some_iff.1 HP.out).1; have z3 := GL.out; have z4 := BP.out.size; have z5 := BT.out.size; have z6 := (Array.getElem?_eq_some_iff.1 HR.out).1; have z7 := hHeld.size; have z8 := GR.out; (try have z9 := BV.out.size); (try have z10 := (Array.getElem?_eq_some_iff.1 HV.out).1); omega) | exact heap_far (heap_keep HV.out BP.out) F5.out (by have z1 := (Array.getElem?_eq_some_iff.1 HG.out).1; have z2 := (Array.getElem?_eq_some_iff.1 HP.out).1; have z3 := GL.out; have z4 := BP.out.size; have z5 := BT.out.size; have z6 := (Array.getElem?_eq_some_iff.1 HR.out).1; have z7 := hHeld.size; have z8 := GR.out; (try have z9 := BV.out.size); (try have z10 := (Array.getElem?_eq_some_iff.1 HV.out).1); omega) | exact heap_far (heap_keep HV.out BT.out) F5.out (by have z1 := (Array.getElem?_eq_some_iff.1 HG.out).1; have z2 := (Array.getElem?_eq_some_iff.1 HP.out).1; have z3 := GL.out; have z4 := BP.out.size; have z5 := BT.out.size; have z6 := (Array.getElem?_eq_some_iff.1 HR.out).1; have z7 := hHeld.size; have z8 := GR.out; (try have z9 := BV.out.size); (try have z10 := (Array.getElem?_eq_some_iff.1 HV.out).1); omega) | exact heap_far (heap_keep (heap_keep HV.out BT.out) BP.out) F5.out (by have z1 := (Array.getElem?_eq_some_iff.1 HG.out).1; have z2 := (Array.getElem?_eq_some_iff.1 HP.out).1; have z3 := GL.out; have z4 := BP.out.size; have z5 := BT.out.size; have z6 := (Array.getElem?_eq_some_iff.1 HR.out).1; have z7 := hHeld.size; have z8 := GR.out; (try have z9 := BV.out.size); (try have z10 := (Array.getElem?_eq_some_iff.1 HV.out).1); omega) | exact heap_far (heap_keep (heap_keep HV.out BP.out) BT.out) F5.out (by have z1 := (Array.getElem?_eq_some_iff.1 HG.out).1; have z2 := (Array.getElem?_eq_some_iff.1 HP.out).1; have z3 := GL.out; have z4 := BP.out.size; have z5 := BT.out.size; have z6 := (Array.getElem?_eq_some_iff.1 HR.out).1; have z7 := hHeld.size; have z8 := GR.out; (try have z9 := BV.out.size); (try have z10 := (Array.getElem?_eq_some_iff.1 HV.out).1); omega)) hi6.out ho6.out h16.out ?_
  refine hK.out _ _ (below_setRow hHeld BVL.out _) (fun hHeld => ?_)
  clear hK K
  (try simp only [List.setIfInBounds_toArray, List.set_cons_zero, List.set_cons_succ])
  refine wpAnyH_done (by kernel_rfl) ?_ _
  rotate_left
  exact AllReadyH.nil
  exact AllReadyH.nil
  exact AllReadyH.nil
  exact AllReadyH.nil
  refine AllReadyH.cons (o := { dst := some 6, op := Op.alloc 62, type := 0, pos := "journal.go:38", after := #[], guard := none }) rfl (fun K hK => ?_) ?_
  go_simp; (first | refine newZ ?_ | refine newZd ?_); intro wa hpa bpa; have HV := hid hpa; have BV := hid bpa; have BVL := hid hHeld.size; clear hpa bpa
  refine hK.out _ _ (by first | exact hHeld.trans (BV.out.mono hHeld.size) | exact BV.out | exact hHeld.trans (BV.out.out.mono hHeld.size)) (fun hHeld => ?_)
  clear hK K
  (try simp only [List.setIfInBounds_toArray, List.set_cons_zero, List.set_cons_succ])
  refine wpAnyH_ready (rs := [0, 3]) (by kernel_rfl) (by simp) ?_
  refine AllReadyH.cons (o := { dst := some 9, op := Op.call { callee := Callee.value (Operand.func 41), args := #[Operand.const (Value.string { data := #[109, 111, 110, 101, 121, 101, 114, 47, 114, 101, 99, 111, 114, 100] })], argTypes := #[9] }, type := 92, pos := "journal.go:38", after := #[], guard := none }) rfl (fun K hK => ?_) ?_
  go_simp; refine (newtag_walk nmRec _).mono ?_; rintro e w2 ⟨gt, cur, rfl, hg, hc, hN, b2⟩; have HG := hid hc; have GL := hid (show w1.heap.size ≤ gt from Nat.le_trans hHeld.size hg); have GR := hid hg; have TN := hid hN; have BT := hid b2; have TH := (show True from trivial); clear hg hc hN b2
  refine hK.out _ _ (by first | exact hHeld.trans (BT.out.mono hHeld.size) | exact BT.out | exact hHeld.trans (BT.out.out.mono hHeld.size)) (fun hHeld => ?_)
  clear hK K
  (try simp only [List.setIfInBounds_toArray, List.set_cons_zero])
  refine wpAnyH_ready (rs := [3]) (by kernel_rfl) (by simp) ?_
  refine AllReadyH.cons (o := { dst := some 12, op := Op.buildSlice 39 2 #[(0, Operand.tmp 10), (1, Operand.tmp 11)], type := 39, pos := "journal.go:38", after := #[{ on := 1, ground := Ground.data }, { on := 2, ground := Ground.data }], guard := none }) rfl (fun K hK => ?_) ?_
  go_simp; (first | refine newZ ?_ | refine newZd ?_); intro wp hp bp; have HP := hid hp; have BP := hid bp; clear hp bp
  refine hK.out _ _ (by first | exact hHeld.trans (BP.out.mono hHeld.size) | exact BP.out | exact hHeld.trans (BP.out.out.mono hHeld.size)) (fun hHeld => ?_)
  clear hK K
  (try simp only [List.setIfInBounds_toArray, List.set_cons_zero, List.set_cons_succ])
  refine wpAnyH_ready (rs := [4]) (by kernel_rfl) (by simp) ?_
  refine AllReadyH.cons (o := { dst := some 13, op := Op.call { callee := Callee.value (Operand.func 42), args := #[Operand.tmp 9, Operand.tmp 12], argTypes := #[92, 39] }, type := 62, pos := "journal.go:38", after := #[{ on := 0, ground := Ground.data }, { on := 3, ground := Ground.data }, { on := 0, ground := Ground.chain }], guard := none }) rfl (fun K hK => ?_) ?_
  go_simp; refine (SW gt cur _ _ (by first | exact HG.out | exact heap_keep HG.out BP.out | exact heap_keep HG.out BV.out | exact heap_keep (heap_keep HG.out BP.out) BV.out | exact heap_keep (heap_keep HG.out BV.out) BP.out) TN.out (by first | exact HP.out | exact heap_keep HP.out BT.out | exact heap_keep HP.out BV.out | exact heap_keep (heap_keep HP.out BT.out) BV.out | exact heap_keep (heap_keep HP.out BV.out) BT.out) (heap_keep HA.out hHeld) (B1.out.trans (hHeld.mono (by have := (Array.getElem?_eq_some_iff.1 HR.out).1; omega))) (by have z1 := (Array.getElem?_eq_some_iff.1 HG.out).1; have z2 := (Array.getElem?_eq_some_iff.1 HP.out).1; have z3 := GL.out; have z4 := BP.out.size; have z5 := BT.out.size; have z6 := (Array.getElem?_eq_some_iff.1 HR.out).1; have z7 := hHeld.size; have z8 := GR.out; (try have z9 := BV.out.size); (try have z10 := (Array.getElem?_eq_some_iff.1 HV.out).1); omega) (by have z1 := (Array.getElem?_eq_some_iff.1 HG.out).1; have z2 := (Array.getElem?_eq_some_iff.1 HP.out).1; have z3 := GL.out; have z4 := BP.out.size; have z5 := BT.out.size; have z6 := (Array.getElem?_eq_some_iff.1 HR.out).1; have z7 := hHeld.size; have z8 := GR.out; (try have z9 := BV.out.size); (try have z10 := (Array.getElem?_eq_some_iff.1 HV.out).1); omega)).out.mono ?_; rintro e w5 ⟨rfl, f5⟩; have F5 := hid f5; clear f5
  refine hK.out _ _ (hHeld.trans (F5.out.below GL.out hHeld.size)) (fun hHeld => ?_)
  clear hK K
  (try simp only [List.setIfInBounds_toArray, List.set_cons_zero, List.set_cons_succ])
  refine wpAnyH_ready (rs := [6]) (by kernel_rfl) (by simp) ?_
  refine AllReadyH.cons (o := { dst := none, op := Op.store 62 (Operand.tmp 6) (Operand.tmp 13), type := 0, pos := "journal.go:38", after := #[{ on := 5, ground := Ground.data }, { on := 4, ground := Ground.data }, { on := 4, ground := Ground.chain }, { on := 0, ground := Ground.phase }, { on := 1, ground := Ground.phase }, { on := 2, ground := Ground.phase }, { on := 3, ground := Ground.phase }, { on := 4, ground := Ground.phase }, { on := 5, ground := Ground.phase }], guard := none }) rfl (fun K hK => ?_) ?_
  rw [if_pos (by rfl)]; refine wp_store_row _ _ _ rfl _ (nums .u8 (recH ah b)).toArray rfl rfl _ _ (by first | exact HV.out | exact heap_far HV.out F5.out (by have z1 := (Array.getElem?_eq_some_iff.1 HG.out).1; have z2 := (Array.getElem?_eq_some_iff.1 HP.out).1; have z3 := GL.out; have z4 := BP.out.size; have z5 := BT.out.size; have z6 := (Array.getElem?_eq_some_iff.1 HR.out).1; have z7 := hHeld.size; have z8 := GR.out; (try have z9 := BV.out.size); (try have z10 := (Array.getElem?_eq_some_iff.1 HV.out).1); omega) | exact heap_far (heap_keep HV.out BP.out) F5.out (by have z1 := (Array.getElem?_eq_some_iff.1 HG.out).1; have z2 := (Array.getElem?_eq_some_iff.1 HP.out).1; have z3 := GL.out; have z4 := BP.out.size; have z5 := BT.out.size; have z6 := (Array.getElem?_eq_some_iff.1 HR.out).1; have z7 := hHeld.size; have z8 := GR.out; (try have z9 := BV.out.size); (try have z10 := (Array.getElem?_eq_some_iff.1 HV.out).1); omega) | exact heap_far (heap_keep HV.out BT.out) F5.out (by have z1 := (Array.getElem?_eq_some_iff.1 HG.out).1; have z2 := (Array.getElem?_eq_some_iff.1 HP.out).1; have z3 := GL.out; have z4 := BP.out.size; have z5 := BT.out.size; have z6 := (Array.getElem?_eq_some_iff.1 HR.out).1; have z7 := hHeld.size; have z8 := GR.out; (try have z9 := BV.out.size); (try have z10 := (Array.getElem?_eq_some_iff.1 HV.out).1); omega) | exact heap_far (heap_keep (heap_keep HV.out BT.out) BP.out) F5.out (by have z1 := (Array.getElem?_eq_some_iff.1 HG.out).1; have z2 := (Array.getElem?_eq_some_iff.1 HP.out).1; have z3 := GL.out; have z4 := BP.out.size; have z5 := BT.out.size; have z6 := (Array.getElem?_eq_some_iff.1 HR.out).1; have z7 := hHeld.size; have z8 := GR.out; (try have z9 := BV.out.size); (try have z10 := (Array.getElem?_eq_some_iff.1 HV.out).1); omega) | exact heap_far (heap_keep (heap_keep HV.out BP.out) BT.out) F5.out (by have z1 := (Array.getElem?_eq_some_iff.1 HG.out).1; have z2 := (Array.getElem?_eq_some_iff.1 HP.out).1; have z3 := GL.out; have z4 := BP.out.size; have z5 := BT.out.size; have z6 := (Array.getElem?_eq_some_iff.1 HR.out).1; have z7 := hHeld.size; have z8 := GR.out; (try have z9 := BV.out.size); (try have z10 := (Array.getElem?_eq_some_iff.1 HV.out).1); omega)) hi6.out ho6.out h16.out ?_
  refine hK.out _ _ (below_setRow hHeld BVL.out _) (fun hHeld => ?_)
  clear hK K
  (try simp only [List.setIfInBounds_toArray, List.set_cons_zero, List.set_cons_succ])
  refine wpAnyH_done (by kernel_rfl) ?_ _
  rotate_left
  exact AllReadyH.nil
  exact AllReadyH.nil
  exact AllReadyH.nil
  refine AllReadyH.cons (o := { dst := some 12, op := Op.buildSlice 39 2 #[(0, Operand.tmp 10), (1, Operand.tmp 11)], type := 39, pos := "journal.go:38", after := #[{ on := 1, ground := Ground.data }, { on := 2, ground := Ground.data }], guard := none }) rfl (fun K hK => ?_) ?_
  go_simp; (first | refine newZ ?_ | refine newZd ?_); intro wp hp bp; have HP := hid hp; have BP := hid bp; clear hp bp
  refine hK.out _ _ (by first | exact hHeld.trans (BP.out.mono hHeld.size) | exact BP.out | exact hHeld.trans (BP.out.out.mono hHeld.size)) (fun hHeld => ?_)
  clear hK K
  (try simp only [List.setIfInBounds_toArray, List.set_cons_zero, List.set_cons_succ])
  refine wpAnyH_ready (rs := [0]) (by kernel_rfl) (by simp) ?_
  refine AllReadyH.cons (o := { dst := some 9, op := Op.call { callee := Callee.value (Operand.func 41), args := #[Operand.const (Value.string { data := #[109, 111, 110, 101, 121, 101, 114, 47, 114, 101, 99, 111, 114, 100] })], argTypes := #[9] }, type := 92, pos := "journal.go:38", after := #[], guard := none }) rfl (fun K hK => ?_) ?_
  go_simp; refine (newtag_walk nmRec _).mono ?_; rintro e w2 ⟨gt, cur, rfl, hg, hc, hN, b2⟩; have HG := hid hc; have GL := hid (show w1.heap.size ≤ gt from Nat.le_trans hHeld.size hg); have GR := hid hg; have TN := hid hN; have BT := hid b2; have TH := (show True from trivial); clear hg hc hN b2
  refine hK.out _ _ (by first | exact hHeld.trans (BT.out.mono hHeld.size) | exact BT.out | exact hHeld.trans (BT.out.out.mono hHeld.size)) (fun hHeld => ?_)
  clear hK K
  (try simp only [List.setIfInBounds_toArray, List.set_cons_zero])
  refine wpAnyH_ready (rs := [4]) (by kernel_rfl) (by simp) ?_
  refine AllReadyH.cons (o := { dst := some 13, op := Op.call { callee := Callee.value (Operand.func 42), args := #[Operand.tmp 9, Operand.tmp 12], argTypes := #[92, 39] }, type := 62, pos := "journal.go:38", after := #[{ on := 0, ground := Ground.data }, { on := 3, ground := Ground.data }, { on := 0, ground := Ground.chain }], guard := none }) rfl (fun K hK => ?_) ?_
  go_simp; refine (SW gt cur _ _ (by first | exact HG.out | exact heap_keep HG.out BP.out | exact heap_keep HG.out BV.out | exact heap_keep (heap_keep HG.out BP.out) BV.out | exact heap_keep (heap_keep HG.out BV.out) BP.out) TN.out (by first | exact HP.out | exact heap_keep HP.out BT.out | exact heap_keep HP.out BV.out | exact heap_keep (heap_keep HP.out BT.out) BV.out | exact heap_keep (heap_keep HP.out BV.out) BT.out) (heap_keep HA.out hHeld) (B1.out.trans (hHeld.mono (by have := (Array.getElem?_eq_some_iff.1 HR.out).1; omega))) (by have z1 := (Array.getElem?_eq_some_iff.1 HG.out).1; have z2 := (Array.getElem?_eq_some_iff.1 HP.out).1; have z3 := GL.out; have z4 := BP.out.size; have z5 := BT.out.size; have z6 := (Array.getElem?_eq_some_iff.1 HR.out).1; have z7 := hHeld.size; have z8 := GR.out; (try have z9 := BV.out.size); (try have z10 := (Array.getElem?_eq_some_iff.1 HV.out).1); omega) (by have z1 := (Array.getElem?_eq_some_iff.1 HG.out).1; have z2 := (Array.getElem?_eq_some_iff.1 HP.out).1; have z3 := GL.out; have z4 := BP.out.size; have z5 := BT.out.size; have z6 := (Array.getElem?_eq_some_iff.1 HR.out).1; have z7 := hHeld.size; have z8 := GR.out; (try have z9 := BV.out.size); (try have z10 := (Array.getElem?_eq_some_iff.1 HV.out).1); omega)).out.mono ?_; rintro e w5 ⟨rfl, f5⟩; have F5 := hid f5; clear f5
  refine hK.out _ _ (hHeld.trans (F5.out.below GL.out hHeld.size)) (fun hHeld => ?_)
  clear hK K
  (try simp only [List.setIfInBounds_toArray, List.set_cons_zero, List.set_cons_succ])
  refine wpAnyH_ready (rs := [6]) (by kernel_rfl) (by simp) ?_
  refine AllReadyH.cons (o := { dst := none, op := Op.store 62 (Operand.tmp 6) (Operand.tmp 13), type := 0, pos := "journal.go:38", after := #[{ on := 5, ground := Ground.data }, { on := 4, ground := Ground.data }, { on := 4, ground := Ground.chain }, { on := 0, ground := Ground.phase }, { on := 1, ground := Ground.phase }, { on := 2, ground := Ground.phase }, { on := 3, ground := Ground.phase }, { on := 4, ground := Ground.phase }, { on := 5, ground := Ground.phase }], guard := none }) rfl (fun K hK => ?_) ?_
  rw [if_pos (by rfl)]; refine wp_store_row _ _ _ rfl _ (nums .u8 (recH ah b)).toArray rfl rfl _ _ (by first | exact HV.out | exact heap_far HV.out F5.out (by have z1 := (Array.getElem?_eq_some_iff.1 HG.out).1; have z2 := (Array.getElem?_eq_some_iff.1 HP.out).1; have z3 := GL.out; have z4 := BP.out.size; have z5 := BT.out.size; have z6 := (Array.getElem?_eq_some_iff.1 HR.out).1; have z7 := hHeld.size; have z8 := GR.out; (try have z9 := BV.out.size); (try have z10 := (Array.getElem?_eq_some_iff.1 HV.out).1); omega) | exact heap_far (heap_keep HV.out BP.out) F5.out (by have z1 := (Array.getElem?_eq_some_iff.1 HG.out).1; have z2 := (Array.getElem?_eq_some_iff.1 HP.out).1; have z3 := GL.out; have z4 := BP.out.size; have z5 := BT.out.size; have z6 := (Array.getElem?_eq_some_iff.1 HR.out).1; have z7 := hHeld.size; have z8 := GR.out; (try have z9 := BV.out.size); (try have z10 := (Array.getElem?_eq_some_iff.1 HV.out).1); omega) | exact heap_far (heap_keep HV.out BT.out) F5.out (by have z1 := (Array.getElem?_eq_some_iff.1 HG.out).1; have z2 := (Array.getElem?_eq_some_iff.1 HP.out).1; have z3 := GL.out; have z4 := BP.out.size; have z5 := BT.out.size; have z6 := (Array.getElem?_eq_some_iff.1 HR.out).1; have z7 := hHeld.size; have z8 := GR.out; (try have z9 := BV.out.size); (try have z10 := (Array.getElem?_eq_some_iff.1 HV.out).1); omega) | exact heap_far (heap_keep (heap_keep HV.out BT.out) BP.out) F5.out (by have z1 := (Array.getElem?_eq_some_iff.1 HG.out).1; have z2 := (Array.getElem?_eq_some_iff.1 HP.out).1; have z3 := GL.out; have z4 := BP.out.size; have z5 := BT.out.size; have z6 := (Array.getElem?_eq_some_iff.1 HR.out).1; have z7 := hHeld.size; have z8 := GR.out; (try have z9 := BV.out.size); (try have z10 := (Array.getElem?_eq_some_iff.1 HV.out).1); omega) | exact heap_far (heap_keep (heap_keep HV.out BP.out) BT.out) F5.out (by have z1 := (Array.getElem?_eq_some_iff.1 HG.out).1; have z2 := (Array.getElem?_eq_some_iff.1 HP.out).1; have z3 := GL.out; have z4 := BP.out.size; have z5 := BT.out.size; have z6 := (Array.getElem?_eq_some_iff.1 HR.out).1; have z7 := hHeld.size; have z8 := GR.out; (try have z9 := BV.out.size); (try have z10 := (Array.getElem?_eq_some_iff.1 HV.out).1); omega)) hi6.out ho6.out h16.out ?_
  refine hK.out _ _ (below_setRow hHeld BVL.out _) (fun hHeld => ?_)
  clear hK K
  (try simp only [List.setIfInBounds_toArray, List.set_cons_zero, List.set_cons_succ])
  refine wpAnyH_done (by kernel_rfl) ?_ _
  rotate_left
  exact AllReadyH.nil
  exact AllReadyH.nil
  exact AllReadyH.nil
  exact AllReadyH.nil
  exact AllReadyH.nil
  all_goals
    have vl := BVL.out
    have z6 := (Array.getElem?_eq_some_iff.1 HR.out).1
    refine M2.out _ _ _ _ _ _ _ (setRow_heap _ _ _ _ _ _ (by first | exact HV.out | exact heap_far HV.out F5.out (by have z1 := (Array.getElem?_eq_some_iff.1 HG.out).1; have z2 := (Array.getElem?_eq_some_iff.1 HP.out).1; have z3 := GL.out; have z4 := BP.out.size; have z5 := BT.out.size; have z6 := (Array.getElem?_eq_some_iff.1 HR.out).1; have z7 := hHeld.size; have z8 := GR.out; (try have z9 := BV.out.size); (try have z10 := (Array.getElem?_eq_some_iff.1 HV.out).1); omega) | exact heap_far (heap_keep HV.out BP.out) F5.out (by have z1 := (Array.getElem?_eq_some_iff.1 HG.out).1; have z2 := (Array.getElem?_eq_some_iff.1 HP.out).1; have z3 := GL.out; have z4 := BP.out.size; have z5 := BT.out.size; have z6 := (Array.getElem?_eq_some_iff.1 HR.out).1; have z7 := hHeld.size; have z8 := GR.out; (try have z9 := BV.out.size); (try have z10 := (Array.getElem?_eq_some_iff.1 HV.out).1); omega) | exact heap_far (heap_keep HV.out BT.out) F5.out (by have z1 := (Array.getElem?_eq_some_iff.1 HG.out).1; have z2 := (Array.getElem?_eq_some_iff.1 HP.out).1; have z3 := GL.out; have z4 := BP.out.size; have z5 := BT.out.size; have z6 := (Array.getElem?_eq_some_iff.1 HR.out).1; have z7 := hHeld.size; have z8 := GR.out; (try have z9 := BV.out.size); (try have z10 := (Array.getElem?_eq_some_iff.1 HV.out).1); omega) | exact heap_far (heap_keep (heap_keep HV.out BT.out) BP.out) F5.out (by have z1 := (Array.getElem?_eq_some_iff.1 HG.out).1; have z2 := (Array.getElem?_eq_some_iff.1 HP.out).1; have z3 := GL.out; have z4 := BP.out.size; have z5 := BT.out.size; have z6 := (Array.getElem?_eq_some_iff.1 HR.out).1; have z7 := hHeld.size; have z8 := GR.out; (try have z9 := BV.out.size); (try have z10 := (Array.getElem?_eq_some_iff.1 HV.out).1); omega) | exact heap_far (heap_keep (heap_keep HV.out BP.out) BT.out) F5.out (by have z1 := (Array.getElem?_eq_some_iff.1 HG.out).1; have z2 := (Array.getElem?_eq_some_iff.1 HP.out).1; have z3 := GL.out; have z4 := BP.out.size; have z5 := BT.out.size; have z6 := (Array.getElem?_eq_some_iff.1 HR.out).1; have z7 := hHeld.size; have z8 := GR.out; (try have z9 := BV.out.size); (try have z10 := (Array.getElem?_eq_some_iff.1 HV.out).1); omega))) (by omega) (by omega) hHeld
end Go.Proofs.YtnophelfpoldfaaGreatDoor
