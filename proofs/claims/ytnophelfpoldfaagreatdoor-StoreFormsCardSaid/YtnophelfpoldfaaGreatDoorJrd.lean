/- The journal's read. -/
import Derived.Test.YtnophelfpoldfaaGreatDoorJrec
namespace Go.Proofs.YtnophelfpoldfaaGreatDoor
open Go.RowKit

def z32 : List Nat := List.replicate 32 0
/-- the bytes of so many sectors -/
def allC (C : List (List Nat)) (p m : Nat) : List Nat := ((C.drop p).take m).flatten
/-- the record at a place of a half -/
def readC (C : List (List Nat)) (half at' : Nat) (ah : List Nat) : Option (List Nat × List Nat × Nat) :=
  if C.length / 2 ≤ at' then none else
  let p := half * (C.length / 2) + at'
  let n := four4 (C.getD p [])
  let m := (99 + n) / 64
  if (C.length / 2 - at') * 64 < n ∨ C.length / 2 - at' < m then none else
  let b := ((allC C p m).drop 36).take n
  if recB ah b = allC C p m then some (b, recH ah b, at' + m) else none
def capV : Value → Nat
  | .slice _ _ c => c
  | _ => 0
def ReadR (w : World) (C : List (List Nat)) (half at' : Nat) (ah : List Nat) (e : Ending) (w' : World) : Prop :=
  (match readC C half at' ah with
   | none => e = .returned (.tuple #[.slice none 0 0, .agg (nums .u8 z32).toArray, .int .i64 0, .bool false])
   | some (b, h, t) => ∃ v, e = .returned (.tuple #[v, .agg (nums .u8 h).toArray, .int .i64 (t : Int), .bool true]) ∧ ByA w' v b ∧ 28 ≤ capV v) ∧ Below w.heap.size w w'
theorem ReadR.no {w w' : World} {C : List (List Nat)} {half at' : Nat} {ah : List Nat} (h : readC C half at' ah = none) (b : Below w.heap.size w w') : ReadR w C half at' ah (.returned (.tuple #[.slice none 0 0, .agg (nums .u8 z32).toArray, .int .i64 0, .bool false])) w' := by
  unfold ReadR; rw [h]; exact ⟨rfl, b⟩
theorem ReadR.yes {w w' : World} {C : List (List Nat)} {half at' : Nat} {ah b h : List Nat} {t : Nat} (hr : readC C half at' ah = some (b, h, t)) (bl : Below w.heap.size w w') {v : Value} (hv : ByA w' v b) (hc : 28 ≤ capV v) : ReadR w C half at' ah (.returned (.tuple #[v, .agg (nums .u8 h).toArray, .int .i64 (t : Int), .bool true])) w' := by
  unfold ReadR; rw [hr]; exact ⟨⟨v, rfl, hv, hc⟩, bl⟩
theorem results_tctt {P : Program} {fn : Func} {p q q2 q3 : Tmp} {ty : TypeId} (h : fn.results = #[.tmp q, .cell p ty, .tmp q2, .tmp q3]) (tmps : Array Value) (w : World) (g : Nat) (t : TypeId) (cs : Array Value) (fr : Nat × Nat) (d : TypeDesc) (v v2 v3 : Value)
    (hp : tmps.getD p undef = .pointer (some ⟨g, 0, none⟩)) (hq : tmps.getD q undef = v) (hq2 : tmps.getD q2 undef = v2) (hq3 : tmps.getD q3 undef = v3) (hg : w.heap[g]? = some (.cells cs t fr))
    (hu : P.underlying ty = some d) (hd : (match d with | .struct _ | .array _ _ => true | _ => false) = true) (hi : (P.info? ty).map (·.size) = some cs.size) :
    (results fn tmps).run P w = .ok (.tuple #[v, .agg cs, v2, v3]) w := by
  have hp' : tmps[p]?.getD undef = .pointer (some ⟨g, 0, none⟩) := by simpa using hp
  have hq' : tmps[q]?.getD undef = v := by simpa using hq
  have hq2' : tmps[q2]?.getD undef = v2 := by simpa using hq2
  have hq3' : tmps[q3]?.getD undef = v3 := by simpa using hq3
  simp [results, h, hp', hq', hq2', hq3', asAddr, run_loadVar_row w g t ty cs fr d hg hu hd hi]
theorem Below.ownK {w w' : World} {B : Nat} {e : TypeId} {size : Nat} {v : Value} {n : Nat} {xs : List Value} (h : w.ownsRow B e size v n xs) (b : Below w.heap.size w w') : w'.ownsRow B e size v n xs := Keep.own (S := fun _ => False) (Keep.of b) h (fun _ _ h => h)
theorem sl_part0 {w : World} {g off n c : Nat} {bs : List Nat} (h : Sl .u8 w (some ⟨g, off, none⟩) n c bs) {i m : Nat} (hi : i + m ≤ n) : Sl .u8 w (some ⟨g, off + i, none⟩) m (c - i) ((bs.drop i).take m) := by
  rcases Nat.eq_zero_or_pos m with rfl | hm
  · exact ⟨by simp, Nat.zero_le _, by have := h.2.2.1; omega, (fun e => nomatch e), 0, 0, fun h => absurd h (by decide), by simp⟩
  · exact sl_part h hi hm
theorem ByA.part {w : World} {g off n c : Nat} {bs : List Nat} (h : ByA w (.slice (some ⟨g, off, none⟩) n c) bs) {i m : Nat} (hi : i + m ≤ n) : ByA w (.slice (some ⟨g, off + i, none⟩) m (c - i)) ((bs.drop i).take m) := by
  obtain ⟨a, n', c', e, hs, hb, _, hg⟩ := h
  simp only [Value.slice.injEq] at e
  obtain ⟨rfl, rfl, rfl⟩ := e
  exact ⟨_, _, _, rfl, sl_part0 hs hi, fun d hd => hb d (List.mem_of_mem_drop (List.mem_of_mem_take hd)), (fun e => nomatch e), fun g' o' s' e => by
    simp only [Option.some.injEq, Addr.mk.injEq] at e
    obtain ⟨rfl, _, _⟩ := e
    exact hg _ off none rfl⟩
theorem recB_len (ah b : List Nat) : (recB ah b).length = (99 + b.length) / 64 * 64 := by
  unfold recB padTo recH be4
  simp only [List.length_append, List.length_replicate, sha_len, List.length_cons, List.length_nil]
  omega
structure RdS (w : World) (V H : Nat) (rc : List Nat) (v : Value) (b : List Nat) (w' : World) : Prop where
  rng : w'.rangeAt V 0 (nums .u8 rc)
  row : ∃ cs, w'.heap[H]? = some (.cells cs 62 (0, 0)) ∧ cs.size = 32
  by' : ByA w' v b
  bel : Below w.heap.size w w'
theorem hash_noBy {w : World} {H : Nat} {cs : Array Value} (h : w.heap[H]? = some (.cells cs 62 (0, 0))) : NoBy w H := by
  intro cur hc
  rw [h] at hc
  simp only [Option.some.injEq, Obj.cells.injEq] at hc
  exact absurd hc.2.1 (by decide)
theorem RdS.set {w w' : World} {V H : Nat} {rc : List Nat} {v : Value} {b : List Nat} (h : RdS w V H rc v b w') (hV : V ≠ H) (hw : w.heap.size ≤ H) (cs : Array Value) (hc : cs.size = 32) : RdS w V H rc v b (w'.setRow H cs) := by
  obtain ⟨c0, hc0, _⟩ := h.row
  exact ⟨range_far (far_row _ _ _) h.rng hV, ⟨cs, setRow_heap _ _ _ _ _ _ hc0, hc⟩, h.by'.keep (Keep.far' (far_row _ _ _)) (fun i _ hi => by cases hi; exact hash_noBy hc0), below_setRow h.bel hw _⟩
theorem DiskAt.sec {w : World} {db B : Nat} {sv qv : Value} {C : List (List Nat)} {Q : List QE} (h : DiskAt w db B sv qv C Q) {p : Nat} {bs : List Nat} (hp : C[p]? = some bs) : bs.length = 64 ∧ ∀ d ∈ bs, d < 256 := by
  obtain ⟨vs, _, hl, hv⟩ := h.sure
  have hlt := (List.getElem?_eq_some_iff.1 hp).1
  have hvp : vs[p]? = some vs[p] := List.getElem?_eq_getElem (by omega)
  obtain ⟨⟨_, _, _, _, _, hb, _⟩, h64⟩ := hv p _ bs hvp hp
  exact ⟨h64, hb⟩
theorem allC_succ (C : List (List Nat)) (p m : Nat) {bs : List Nat} (hb : C[p + m]? = some bs) : allC C p (m + 1) = allC C p m ++ bs := by
  unfold allC
  rw [List.take_add_one, List.getElem?_drop, hb, List.flatten_append]
  simp
theorem allC_len {C : List (List Nat)} (h64 : ∀ bs ∈ C, bs.length = 64) (p : Nat) : ∀ m, p + m ≤ C.length → (allC C p m).length = 64 * m
  | 0, _ => by simp [allC]
  | m + 1, h => by
    rw [allC_succ C p m (List.getElem?_eq_getElem (by omega)), List.length_append, allC_len h64 p m (by omega), h64 _ (List.getElem_mem ..)]
    omega
theorem allC_lt {C : List (List Nat)} (h8 : ∀ bs ∈ C, ∀ d ∈ bs, d < 256) (p m : Nat) : ∀ d ∈ allC C p m, d < 256 := by
  intro d hd
  simp only [allC, List.mem_flatten] at hd
  obtain ⟨l, hl, hd⟩ := hd
  exact h8 l (List.mem_of_mem_drop (List.mem_of_mem_take hl)) d hd
theorem DiskAt.secs {w : World} {db B : Nat} {sv qv : Value} {C : List (List Nat)} {Q : List QE} (h : DiskAt w db B sv qv C Q) : (∀ bs ∈ C, bs.length = 64) ∧ ∀ bs ∈ C, ∀ d ∈ bs, d < 256 :=
  ⟨fun bs hb => by obtain ⟨i, hi⟩ := List.mem_iff_getElem?.1 hb; exact (h.sec hi).1, fun bs hb => by obtain ⟨i, hi⟩ := List.mem_iff_getElem?.1 hb; exact (h.sec hi).2⟩
set_option maxRecDepth 100000 in
set_option maxHeartbeats 8000000 in
theorem jread_walk {w : World} {db B : Nat} {sv : Value} {C : List (List Nat)} (h : DiskAt w db B sv (.slice none 0 0) C []) (half : Nat) (hh : half ≤ 1) (pl : Nat) (hpl : pl < 4294967296) (ah : List Nat) (h32 : ah.length = 32) (h8 : ∀ d ∈ ah, d < 256) (ht : Tabs w) :
    Calls Tryz.prog 40 #[.pointer (some ⟨db, 0, none⟩), .int .i64 (half : Int), .int .i64 (pl : Int), .agg (nums .u8 ah).toArray] w (ReadR w C half pl ah) := by
  have H := hid h
  have few := h.few
  have H32 := hid h32
  have H8 := hid h8
  have HT := hid ht
  have SC := hid h.secs
  obtain ⟨sz, hsz⟩ : ∃ sz, sz = C.length / 2 := ⟨_, rfl⟩
  have SZ := hid hsz
  have FEW := hid few
  have HH := hid hh
  have ZH : ∀ w : World, (zeroValue 62).run Tryz.prog w = .ok (.agg (nums .u8 z32).toArray) w := by unfold z32; exact zv_of (by kernel_rfl)
  have lz := hid (show z32.length = 32 by rfl)
  have hz1 := hid (all_oneCell_toArray (nums_oneCell .u8 z32))
  have A2 := alloc2p w (.cells (nums .u8 ah).toArray 62) (.cells (nums .u8 z32).toArray 62)
  have HA := hid A2.1
  have HR := hid A2.2.1
  have S1 := hid A2.2.2.1
  have B1 := hid A2.2.2.2
  have hiZ := hid (show (Tryz.prog.info? 62).map (·.size) = some (nums .u8 z32).toArray.size by rw [List.size_toArray, nums_length, lz.out]; kernel_rfl)
  clear h few h32 h8 ht A2 hh
  go_enter Tryz.func40, Tryz.ntmps40
  go_upto_region 1 with (fail)
  generalize (w.alloc (.cells (nums .u8 ah).toArray 62)).alloc (.cells (nums .u8 z32).toArray 62) = w1 at *
  have D1 := hid (H.out.below B1.out)
  by_cases hge : sz ≤ pl
  case pos =>
    have t1 : decide (pl ≥ sz) = true := decide_eq_true (by omega)
    have t2 : decide (sz ≤ pl) = true := decide_eq_true (by omega)
    have NO := hid (show readC C half pl ah = none by unfold readC; rw [← hsz, if_pos hge])
    clear hsz hge
    go_wp2_with (fail)
    refine (dsize_walk D1.out).mono ?_
    rintro e w2 ⟨rfl, rfl⟩
    rw [← SZ.out]
    go_wp2_with (refine wpList_store_row rfl _ _ _ rfl (w.heap.size + 1) (nums .u8 z32).toArray rfl rfl _ _ HR.out hiZ.out rfl hz1.out ?_)
    refine bodyPost_ret (results_tctt rfl _ _ (w.heap.size + 1) _ (nums .u8 z32).toArray _ _ _ _ _ rfl rfl rfl rfl (setRow_heap _ _ _ _ _ _ HR.out) Tryz.underlying62 rfl hiZ.out) rfl ?_
    exact ReadR.no NO.out (below_setRow B1.out (by omega) _)
  case neg =>
    have t1 : decide (pl ≥ sz) = false := decide_eq_false (by omega)
    have t2 : decide (sz ≤ pl) = false := decide_eq_false (by omega)
    have hs2 : half * sz ≤ sz := by have := Nat.mul_le_mul_right sz HH.out; omega
    have hsx := SZ.out
    have few := FEW.out
    obtain ⟨hs, hhs⟩ : ∃ hs, hs = half * sz := ⟨_, rfl⟩
    rw [← hhs] at hs2
    obtain ⟨p, hp⟩ : ∃ p, p = hs + pl := ⟨_, rfl⟩
    have r1 : IntKind.i64.wrap ((half : Int) * (sz : Int)) = (hs : Int) := by rw [← Int.natCast_mul, ← hhs, IntKind.wrap_i64]; omega
    have r2 : IntKind.i64.wrap ((hs : Int) + (pl : Int)) = (p : Int) := by rw [IntKind.wrap_i64]; omega
    have hpC : p < C.length := by omega
    obtain ⟨c0, hc0⟩ : ∃ c0, c0 = C.getD p [] := ⟨_, rfl⟩
    have hcp : C[p]? = some c0 := by rw [hc0, List.getD_eq_getElem?_getD, List.getElem?_eq_getElem hpC]; rfl
    obtain ⟨n, hn⟩ : ∃ n, n = four4 c0 := ⟨_, rfl⟩
    have c0l := (D1.out.sec hcp).1
    have c08 := hid (D1.out.sec hcp).2
    have hn32 : n < 4294967296 := by
      have g := fun k => getD_ltU c08.out (by decide) k
      have := g 0; have := g 1; have := g 2; have := g 3
      rw [hn]; unfold four4; omega
    obtain ⟨m, hm⟩ : ∃ m, m = (99 + n) / 64 := ⟨_, rfl⟩
    obtain ⟨n1, hn1⟩ : ∃ n1, n1 = 36 + n := ⟨_, rfl⟩
    obtain ⟨n2, hn2⟩ : ∃ n2, n2 = n1 + 64 := ⟨_, rfl⟩
    obtain ⟨n3, hn3⟩ : ∃ n3, n3 = n2 - 1 := ⟨_, rfl⟩
    have q1 : IntKind.i64.wrap (36 + (n : Int)) = (n1 : Int) := by rw [IntKind.wrap_i64]; omega
    have q2 : IntKind.i64.wrap ((n1 : Int) + 64) = (n2 : Int) := by rw [IntKind.wrap_i64]; omega
    have q3 : IntKind.i64.wrap ((n2 : Int) - 1) = (n3 : Int) := by rw [IntKind.wrap_i64]; omega
    have q4 : ((n3 : Int)).tdiv 64 = (m : Int) := by rw [Int.tdiv_eq_ediv_of_nonneg (by omega)]; omega
    have q5 : IntKind.i64.wrap (m : Int) = (m : Int) := by rw [IntKind.wrap_i64]; omega
    obtain ⟨rm, hrm⟩ : ∃ rm, rm = sz - pl := ⟨_, rfl⟩
    obtain ⟨rm6, hrm6⟩ : ∃ rm6, rm6 = rm * 64 := ⟨_, rfl⟩
    have q6 : IntKind.i64.wrap ((sz : Int) - (pl : Int)) = (rm : Int) := by rw [IntKind.wrap_i64]; omega
    have q7 : IntKind.i64.wrap ((rm : Int) * 64) = (rm6 : Int) := by rw [IntKind.wrap_i64]; omega
    have RC := hid (show readC C half pl ah = if rm6 < n ∨ rm < m then none else if recB ah (((allC C p m).drop 36).take n) = allC C p m then some (((allC C p m).drop 36).take n, recH ah (((allC C p m).drop 36).take n), pl + m) else none by
      unfold readC
      rw [← hsz, if_neg hge]
      simp only [← hhs, ← hp, ← hc0, ← hn, ← hm, ← hrm, ← hrm6])
    have BD := hid (show p + rm ≤ C.length ∧ p < C.length ∧ 1 ≤ m ∧ n + 36 ≤ 64 * m ∧ rm ≤ 2048 ∧ rm6 = rm * 64 ∧ pl + rm = sz ∧ sz ≤ 2048 ∧ n1 = 36 + n from by omega)
    have CP := hid hcp
    have FN := hid hn
    have CL := hid c0l
    clear hsz hge hs2 hsx hhs hp hc0 hn hcp hm hn1 hn2 hn3 hrm hrm6 hpC few c0l hn32 hpl
    go_wp2_with (fail)
    refine (dsize_walk D1.out).mono ?_
    rintro e w2 ⟨rfl, rfl⟩
    rw [← SZ.out]
    go_wp2_with (fail)
    refine (dsize_walk D1.out).mono ?_
    rintro e w2 ⟨rfl, rfl⟩
    rw [← SZ.out]
    go_wp2_with (fail)
    refine (dread_walk D1.out p c0 CP.out).mono ?_
    rintro e w2 ⟨v12, rfl, o2, b2⟩
    rw [CL.out] at o2
    have O2 := hid o2
    have B2 := hid b2
    obtain ⟨g12, k12, rfl⟩ := own_sliceJ o2 (by decide)
    clear o2 b2
    have FW := hid (jfour_walk (some ⟨g12, 0, none⟩) 64 k12 c0 w2 (by obtain ⟨a', c', e, hr⟩ := Rd.of_owns O2.out; simp only [Value.slice.injEq] at e; obtain ⟨rfl, _, rfl⟩ := e; exact hr) c08.out (by decide))
    rw [← FN.out] at FW
    go_wp2_with (fail)
    refine FW.out.mono ?_
    rintro e w3 ⟨rfl, b3⟩
    have B13 := hid (show Below w1.heap.size w1 w3 from B2.out.trans (b3.mono B2.out.size))
    have B23 := hid b3
    have D3 := hid (D1.out.below B13.out)
    clear b3 FW
    by_cases h6 : rm6 < n
    case pos =>
      have t3 : decide ((n : Int) > (rm6 : Int)) = true := decide_eq_true (by omega)
      have t4 : decide (rm6 < n) = true := decide_eq_true (by omega)
      have LS := hid h6
      clear h6
      go_wp2_with (fail)
      refine (dsize_walk D3.out).mono ?_
      rintro e w4 ⟨rfl, rfl⟩
      rw [← SZ.out]
      go_wp2_with (refine wpList_store_row rfl _ _ _ rfl (w.heap.size + 1) (nums .u8 z32).toArray rfl rfl _ _ (heap_keep HR.out B13.out) hiZ.out rfl hz1.out ?_)
      refine bodyPost_ret (results_tctt rfl _ _ (w.heap.size + 1) _ (nums .u8 z32).toArray _ _ _ _ _ rfl rfl rfl rfl (setRow_heap _ _ _ _ _ _ (heap_keep HR.out B13.out)) Tryz.underlying62 rfl hiZ.out) rfl ?_
      exact ReadR.no (by rw [RC.out]; rw [if_pos (.inl LS.out)]) (below_setRow (B1.out.trans (Below.mono B13.out B1.out.size)) (by omega) _)
    case neg =>
    have t3 : decide (rm6 < n) = false := decide_eq_false (by omega)
    have NL := hid h6
    clear h6
    by_cases h7 : rm < m
    case pos =>
      have t4 : decide (rm < m) = true := decide_eq_true (by omega)
      have LS := hid h7
      clear h7
      go_wp2_with (fail)
      refine (dsize_walk D3.out).mono ?_
      rintro e w4 ⟨rfl, rfl⟩
      rw [← SZ.out]
      go_wp2_with (fail)
      refine (dsize_walk D3.out).mono ?_
      rintro e w4 ⟨rfl, rfl⟩
      rw [← SZ.out]
      go_wp2_with (refine wpList_store_row rfl _ _ _ rfl (w.heap.size + 1) (nums .u8 z32).toArray rfl rfl _ _ (heap_keep HR.out B13.out) hiZ.out rfl hz1.out ?_)
      refine bodyPost_ret (results_tctt rfl _ _ (w.heap.size + 1) _ (nums .u8 z32).toArray _ _ _ _ _ rfl rfl rfl rfl (setRow_heap _ _ _ _ _ _ (heap_keep HR.out B13.out)) Tryz.underlying62 rfl hiZ.out) rfl ?_
      exact ReadR.no (by rw [RC.out]; rw [if_pos (.inr LS.out)]) (below_setRow (B1.out.trans (Below.mono B13.out B1.out.size)) (by omega) _)
    case neg =>
    have t4 : decide (rm < m) = false := decide_eq_false (by omega)
    have NM := hid h7
    clear h7
    go_wp2_with (fail)
    refine (dsize_walk D3.out).mono ?_
    rintro e w4 ⟨rfl, rfl⟩
    rw [← SZ.out]
    go_wp2_with (fail)
    refine (dsize_walk D3.out).mono ?_
    rintro e w4 ⟨rfl, rfl⟩
    rw [← SZ.out]
    go_upto_region 12 with (fail)
    have O1 := hid (show w3.ownsRow w1.heap.size 5 1 (.slice (some ⟨g12, 0, none⟩) 64 k12) (64 * 1) (nums .u8 (allC C p 1)) from by
      have e := allC_succ C p 0 CP.out
      rw [Nat.zero_add, show allC C p 0 = [] from rfl, List.nil_append] at e
      rw [e]
      exact Below.ownK O2.out B23.out)
    go_loopw [16, 17] (fun x16 x17 wr => ∃ i : Nat, 1 ≤ i ∧ i ≤ m ∧ x17 = .int .i64 (i : Int) ∧ wr.ownsRow w1.heap.size 5 1 x16 (64 * i) (nums .u8 (allC C p i)) ∧ Below w1.heap.size w1 wr) (fun _ x17 _ => m - (intOf x17).toNat)
    case atStart => exact ⟨1, Nat.le_refl _, BD.out.2.2.1, rfl, O1.out, B13.out⟩
    case round =>
      obtain ⟨i, hi1, him, rfl, ho, hb⟩ := hrel
      have OI := hid ho
      have BI := hid hb
      have DI := hid (D1.out.below hb)
      have bd := BD.out
      obtain ⟨g16, k16, rfl⟩ := own_sliceJ ho (by omega)
      clear ho hb
      by_cases hlt : i < m
      case neg =>
        have t5 : decide (i < m) = false := decide_eq_false hlt
        obtain rfl : i = m := by omega
        have kc : 64 * i ≤ k16 := by obtain ⟨_, _, _, hr⟩ := Rd.of_owns OI.out; rename_i e; simp only [Value.slice.injEq] at e; obtain ⟨_, _, rfl⟩ := e; exact hr.2.1
        have s1 : (0 : Int) ≤ 36 := by decide
        have s2 : (36 : Int) ≤ (n1 : Int) := by omega
        have s3 : (n1 : Int) ≤ (k16 : Int) := by omega
        have s4 : (36 : Nat) ≤ n1 := by omega
        have s5 : n1 ≤ k16 := by omega
        have s6 : n1 - 36 = n := by omega
        have s7 : ¬ (k16 = 36) := by omega
        have s8 : (36 : Nat) ≤ k16 := by omega
        clear hlt hi1 him bd
        obtain ⟨all, hall⟩ : ∃ all, all = allC C p i := ⟨_, rfl⟩
        have la : all.length = 64 * i := by rw [hall]; exact allC_len SC.out.1 p i (by have := BD.out; have := NM.out; omega)
        have LA := hid la
        have HALL := hid hall
        have L8 := hid (show ∀ d ∈ all, d < 256 by rw [hall]; exact allC_lt SC.out.2 p i)
        obtain ⟨b, hb⟩ : ∃ b, b = (all.drop 36).take n := ⟨_, rfl⟩
        have HB := hid hb
        have b8 := hid (show ∀ d ∈ b, d < 256 from fun d hd => L8.out d (by rw [hb] at hd; exact List.mem_of_mem_drop (List.mem_of_mem_take hd)))
        have SA := hid (show Sl .u8 wr (some ⟨g16, 0, none⟩) (64 * i) k16 all from by obtain ⟨a', c', e, hr⟩ := Rd.of_owns OI.out; rw [← hall] at hr; simp only [Value.slice.injEq] at e; obtain ⟨rfl, _, rfl⟩ := e; exact hr)
        have BDo := BD.out
        have SB := hid (show Sl .u8 wr (some ⟨g16, 36, none⟩) n (k16 - 36) b from by
          have := sl_part0 SA.out (i := 36) (m := n) (by omega)
          rw [Nat.zero_add, ← hb] at this
          exact this)
        have YA := hid (show ByA wr (.slice (some ⟨g16, 36, none⟩) n (k16 - 36)) b from by
          have o := OI.out
          rw [← hall] at o
          have := (ByA.own o L8.out).part (i := 36) (m := n) (by omega)
          rw [Nat.zero_add, ← hb] at this
          exact this)
        have hiA := hid (show (Tryz.prog.info? 62).map (·.size) = some (nums .u8 ah).length by rw [nums_length, H32.out]; kernel_rfl)
        have RA := hid (row_range (heap_keep HA.out BI.out))
        obtain ⟨rc, hrc⟩ : ∃ rc, rc = recH ah b := ⟨_, rfl⟩
        have HRC := hid hrc
        have LR := hid (show rc.length = 32 by rw [hrc]; unfold recH; rw [sha_len])
        have JR := fun (wx : World) (bx : Below wr.heap.size wr wx) => hid (jrecord_walk ah H32.out H8.out (some ⟨g16, 36, none⟩) n (k16 - 36) b wx (SB.out.below bx) b8.out (by have := BD.out; have := NL.out; omega) (HT.out.below (B1.out.trans ((BI.out.trans (bx.mono BI.out.size)).mono B1.out.size))))
        clear hall hb hrc la BDo
        go_upto_region 18 with (fail)
        rename_i K18 a18
        have A18 := hid a18
        clear a18
        have MID : ∀ (V : Nat) (v20 u89 u90 u91 u92 u93 u94 u95 u96 u97 : Value) (wz : World), wz.heap[V]? = some (.cells (nums .u8 rc).toArray 62 (0, 0)) → wr.heap.size ≤ V → wz.ownsRow wr.heap.size 5 1 v20 (recB ah b).length (nums .u8 (recB ah b)) → Below wr.heap.size wr wz →
            K18 ⟨List.toArray (Value.pointer (some ⟨db, 0, none⟩) :: Value.int IntKind.i64 (half : Int) :: Value.int IntKind.i64 (pl : Int) :: Value.agg (nums IntKind.u8 ah).toArray :: undef :: undef :: undef :: Value.pointer (some ⟨w.heap.size, 0, none⟩) :: u8 :: Value.pointer (some ⟨w.heap.size + 1, 0, none⟩) :: u10 :: u11 :: Value.slice (some ⟨g12, 0, none⟩) 64 k12 :: Value.int IntKind.i64 0 :: Value.int IntKind.i64 (n : Int) :: Value.int IntKind.i64 (i : Int) :: Value.slice (some ⟨g16, 0, none⟩) (64 * i) k16 :: Value.int IntKind.i64 (i : Int) :: u18 :: u19 :: v20 :: .pointer (some ⟨V, 0, none⟩) :: Value.int IntKind.i64 (pl : Int) :: Value.pointer (some ⟨db, 0, none⟩) :: Value.int IntKind.i64 (sz : Int) :: Value.bool false :: undef :: Value.tuple #[Value.slice (some ⟨g12, 0, none⟩) 64 k12, Value.int IntKind.i64 0] :: Value.pointer (some ⟨db, 0, none⟩) :: Value.int IntKind.i64 (half : Int) :: Value.pointer (some ⟨db, 0, none⟩) :: Value.int IntKind.i64 (sz : Int) :: Value.int IntKind.i64 (hs : Int) :: Value.int IntKind.i64 (pl : Int) :: Value.int IntKind.i64 (p : Int) :: Value.tuple #[Value.slice (some ⟨g12, 0, none⟩) 64 k12, Value.int IntKind.i64 0] :: Value.slice (some ⟨g12, 0, none⟩) 64 k12 :: Value.int IntKind.i64 0 :: Value.int IntKind.i64 0 :: Value.bool false :: undef :: Value.slice (some ⟨g12, 0, none⟩) 64 k12 :: Value.int IntKind.i64 (n : Int) :: Value.int IntKind.i64 (n : Int) :: Value.int IntKind.i64 (n1 : Int) :: Value.int IntKind.i64 (n2 : Int) :: Value.int IntKind.i64 (n3 : Int) :: Value.int IntKind.i64 (i : Int) :: Value.int IntKind.i64 (n : Int) :: Value.pointer (some ⟨db, 0, none⟩) :: Value.int IntKind.i64 (sz : Int) :: Value.int IntKind.i64 (pl : Int) :: Value.int IntKind.i64 (rm : Int) :: Value.int IntKind.i64 (rm6 : Int) :: Value.bool false :: Value.bool false :: Value.int IntKind.i64 (i : Int) :: Value.pointer (some ⟨db, 0, none⟩) :: Value.int IntKind.i64 (sz : Int) :: Value.int IntKind.i64 (pl : Int) :: Value.int IntKind.i64 (rm : Int) :: Value.bool false :: Value.bool false :: undef :: Value.slice (some ⟨g12, 0, none⟩) 64 k12 :: Value.int IntKind.i64 (i : Int) :: Value.int IntKind.i64 (i : Int) :: Value.bool false :: u68 :: u69 :: u70 :: u71 :: u72 :: u73 :: u74 :: u75 :: u76 :: u77 :: u78 :: u79 :: u80 :: u81 :: u82 :: u83 :: u84 :: u85 :: u86 :: u87 :: u88 :: u89 :: u90 :: u91 :: u92 :: u93 :: u94 :: u95 :: u96 :: u97 :: List.replicate 13 undef), []⟩ wz := by
          intro V v20 u89 u90 u91 u92 u93 u94 u95 u96 u97 wz hV hVl hO hB
          refine A18.out _ _ ?_
          clear A18
          simp only [List.replicate_succ, List.replicate_zero]
          have HV := hid hV
          have VL := hid hVl
          have OZ := hid hO
          have BZ := hid hB
          obtain ⟨a20, c20, rfl, R20⟩ := Rd.of_owns hO
          have SZ1 := hid (SA.out.below hB)
          have E20 := hid (equal8_walk a20 (some ⟨g16, 0, none⟩) (recB ah b).length (64 * i) c20 k16 (recB ah b) all wz R20 SZ1.out (by have := BD.out; have := NM.out; rw [recB_len, HB.out, List.length_take]; omega))
          have z1 := (Array.getElem?_eq_some_iff.1 HR.out).1
          clear hV hVl hO hB R20
          go_wp2_with (fail)
          refine E20.out.mono ?_
          rintro e wy ⟨rfl, by'⟩
          have BY := hid by'
          have B1y := hid (show Below w1.heap.size w1 wy from BI.out.trans ((BZ.out.trans (by'.mono BZ.out.size)).mono BI.out.size))
          clear by' E20
          by_cases heq : recB ah b = all
          case neg =>
            have t6 : decide (recB ah b = all) = false := decide_eq_false heq
            have NE := hid heq
            clear heq
            rw [t6]
            go_wp2_with (refine wpList_store_row rfl _ _ _ rfl (w.heap.size + 1) (nums .u8 z32).toArray rfl rfl _ _ (heap_keep HR.out B1y.out) hiZ.out rfl hz1.out ?_)
            refine bodyPost_ret (results_tctt rfl _ _ (w.heap.size + 1) _ (nums .u8 z32).toArray _ _ _ _ _ rfl rfl rfl rfl (setRow_heap _ _ _ _ _ _ (heap_keep HR.out B1y.out)) Tryz.underlying62 rfl hiZ.out) rfl ?_
            exact ReadR.no (by rw [RC.out, if_neg (fun h => h.elim NL.out NM.out), ← HALL.out, ← HB.out, if_neg NE.out]) (below_setRow (B1.out.trans (Below.mono B1y.out B1.out.size)) (by omega) _)
          case pos =>
            have t6 : decide (recB ah b = all) = true := decide_eq_true heq
            have EQ := hid heq
            clear heq
            rw [t6]
            obtain ⟨pt, hpt⟩ : ∃ pt, pt = pl + i := ⟨_, rfl⟩
            have r9 : IntKind.i64.wrap ((pl : Int) + (i : Int)) = (pt : Int) := by have := BD.out; have := NM.out; rw [IntKind.wrap_i64]; omega
            have PT := hid hpt
            clear hpt
            go_upto_region 21 with (fail)
            have RS := hid (show RdS w V (w.heap.size + 1) rc (.slice (some ⟨g16, 36, none⟩) n (k16 - 36)) b wy from ⟨row_range (heap_keep HV.out BY.out), ⟨_, heap_keep HR.out B1y.out, by rw [List.size_toArray, nums_length, lz.out]⟩, YA.out.below (BZ.out.trans (BY.out.mono BZ.out.size)), B1.out.trans (B1y.out.mono B1.out.size)⟩)
            have hiR := hid (show (Tryz.prog.info? 62).map (·.size) = some (nums .u8 rc).toArray.size by rw [List.size_toArray, nums_length, LR.out]; kernel_rfl)
            have hiL := hid (show (Tryz.prog.info? 62).map (·.size) = some (nums .u8 rc).length by rw [nums_length, LR.out]; kernel_rfl)
            have h1R := hid (all_oneCell_toArray (nums_oneCell .u8 rc))
            have hsz : (nums .u8 rc).toArray.size = 32 := by rw [List.size_toArray, nums_length, LR.out]
            have hlo := VL.out
            have hlo2 := BI.out.size
            refine wp_region_held_drew (S := RdS w V (w.heap.size + 1) rc (.slice (some ⟨g16, 36, none⟩) n (k16 - 36)) b) (by kernel_rfl) (⟨fun j v hv => RS.out.rng j v hv, RS.out.row, RS.out.by'.below (Below.refl _ _).drew, RS.out.bel.drew⟩) (fun hHeld => ?_)
            try simp only [List.size_toArray, List.length_cons, List.length_nil, Nat.reduceAdd, Array.replicate_succ, Array.replicate_zero, List.push_toArray, List.nil_append, List.cons_append]
            refine wpAnyH_take (i := 0) (oi := { dst := some 103, op := Op.move (Operand.tmp 16), type := 22, pos := "journal.go:87", after := #[], guard := none }) (v := ?v1001) rfl (by kernel_rfl) (by kernel_rfl) (by kernel_rfl) (fun _ _ _ h => h) (Or.inl ⟨by rfl, ?hy1001⟩) hHeld ?_
            case hy1001 => (intro w hSw; (try dsimp only at hSw); go_simp; (try with_reducible rfl))
            (try simp only [Act.put, List.setIfInBounds_toArray, List.set_cons_zero, List.set_cons_succ])
            refine wpAnyH_take (i := 1) (oi := { dst := some 104, op := Op.move (Operand.tmp 14), type := 3, pos := "journal.go:87", after := #[], guard := none }) (v := ?v1002) rfl (by kernel_rfl) (by kernel_rfl) (by kernel_rfl) (fun _ _ _ h => h) (Or.inl ⟨by rfl, ?hy1002⟩) hHeld ?_
            case hy1002 => (intro w hSw; (try dsimp only at hSw); go_simp; (try with_reducible rfl))
            (try simp only [Act.put, List.setIfInBounds_toArray, List.set_cons_zero, List.set_cons_succ])
            refine wpAnyH_take (i := 2) (oi := { dst := some 105, op := Op.binOp BinOp.add 3 (Operand.const (Value.int IntKind.i64 36)) (Operand.tmp 104) 3, type := 3, pos := "journal.go:87", after := #[{ on := 1, ground := Ground.data }], guard := none }) (v := ?v1003) rfl (by kernel_rfl) (by kernel_rfl) (by kernel_rfl) (fun _ _ _ h => h) (Or.inl ⟨by rfl, ?hy1003⟩) hHeld ?_
            case hy1003 => (intro w hSw; (try dsimp only at hSw); go_simp; (try with_reducible rfl))
            (try simp only [Act.put, List.setIfInBounds_toArray, List.set_cons_zero, List.set_cons_succ])
            refine wpAnyH_take (i := 3) (oi := { dst := some 106, op := Op.slice 22 (Operand.tmp 103) (some (Operand.const (Value.int IntKind.i64 36))) (some (Operand.tmp 105)) none, type := 22, pos := "journal.go:87", after := #[{ on := 0, ground := Ground.data }, { on := 2, ground := Ground.data }], guard := none }) (v := ?v1004) rfl (by kernel_rfl) (by kernel_rfl) (by kernel_rfl) (fun _ _ _ h => h) (Or.inl ⟨by rfl, ?hy1004⟩) hHeld ?_
            case hy1004 => (intro w hSw; (try dsimp only at hSw); go_simp; (try with_reducible rfl))
            (try simp only [Act.put, List.setIfInBounds_toArray, List.set_cons_zero, List.set_cons_succ])
            refine' wpAnyH_take (i := 4) (oi := { dst := some 107, op := Op.load 62 (Operand.tmp 21), type := 62, pos := "journal.go:87", after := #[{ on := 8, ground := Ground.gcOnly Departure.lateStores }], guard := none }) (v := _) rfl (by kernel_rfl) (by kernel_rfl) (by kernel_rfl) (fun _ _ _ h => h) (yieldsIf_load_mid (by rfl) _ _ rfl V 0 rfl (nums .u8 rc) _ (fun _ h => h.rng) Tryz.underlying62 rfl hiL.out) hHeld ?_
            (try simp only [Act.put, List.setIfInBounds_toArray, List.set_cons_zero, List.set_cons_succ])
            refine wpAnyH_take (i := 5) (oi := { dst := some 108, op := Op.move (Operand.tmp 2), type := 3, pos := "journal.go:87", after := #[{ on := 9, ground := Ground.gcOnly Departure.lateStores }], guard := none }) (v := ?v1005) rfl (by kernel_rfl) (by kernel_rfl) (by kernel_rfl) (fun _ _ _ h => h) (Or.inl ⟨by rfl, ?hy1005⟩) hHeld ?_
            case hy1005 => (intro w hSw; (try dsimp only at hSw); go_simp; (try with_reducible rfl))
            (try simp only [Act.put, List.setIfInBounds_toArray, List.set_cons_zero, List.set_cons_succ])
            refine wpAnyH_take (i := 6) (oi := { dst := some 109, op := Op.move (Operand.tmp 15), type := 3, pos := "journal.go:87", after := #[{ on := 9, ground := Ground.gcOnly Departure.lateStores }], guard := none }) (v := ?v1006) rfl (by kernel_rfl) (by kernel_rfl) (by kernel_rfl) (fun _ _ _ h => h) (Or.inl ⟨by rfl, ?hy1006⟩) hHeld ?_
            case hy1006 => (intro w hSw; (try dsimp only at hSw); go_simp; (try with_reducible rfl))
            (try simp only [Act.put, List.setIfInBounds_toArray, List.set_cons_zero, List.set_cons_succ])
            refine wpAnyH_take (i := 7) (oi := { dst := some 110, op := Op.binOp BinOp.add 3 (Operand.tmp 108) (Operand.tmp 109) 3, type := 3, pos := "journal.go:87", after := #[{ on := 5, ground := Ground.data }, { on := 6, ground := Ground.data }, { on := 9, ground := Ground.gcOnly Departure.lateStores }], guard := none }) (v := ?v1007) rfl (by kernel_rfl) (by kernel_rfl) (by kernel_rfl) (fun _ _ _ h => h) (Or.inl ⟨by rfl, ?hy1007⟩) hHeld ?_
            case hy1007 => (intro w hSw; (try dsimp only at hSw); go_simp; (try with_reducible rfl))
            (try simp only [Act.put, List.setIfInBounds_toArray, List.set_cons_zero, List.set_cons_succ])
            refine wpAnyH_take (i := 8) (oi := { dst := some 8, op := Op.assign (Operand.tmp 106), type := 22, pos := "journal.go:87", after := #[{ on := 3, ground := Ground.data }, { on := 0, ground := Ground.phase }, { on := 1, ground := Ground.phase }, { on := 2, ground := Ground.phase }, { on := 3, ground := Ground.phase }, { on := 4, ground := Ground.textOnly Departure.lateStores }, { on := 5, ground := Ground.textOnly Departure.lateStores }, { on := 6, ground := Ground.textOnly Departure.lateStores }, { on := 7, ground := Ground.textOnly Departure.lateStores }], guard := none }) (v := ?v1008) rfl (by kernel_rfl) (by kernel_rfl) (by kernel_rfl) (fun _ _ _ h => h) (Or.inl ⟨by rfl, ?hy1008⟩) hHeld ?_
            case hy1008 => (intro w hSw; (try dsimp only at hSw); go_simp; (try with_reducible rfl))
            (try simp only [Act.put, List.setIfInBounds_toArray, List.set_cons_zero, List.set_cons_succ])
            refine wpAnyH_ready (rs := [9]) (by kernel_rfl) (by simp) ?_
            refine AllReadyH.cons (o := { dst := none, op := Op.store 62 (Operand.tmp 9) (Operand.tmp 107), type := 0, pos := "journal.go:87", after := #[{ on := 4, ground := Ground.data }, { on := 8, ground := Ground.chain }, { on := 0, ground := Ground.phase }, { on := 1, ground := Ground.phase }, { on := 2, ground := Ground.phase }, { on := 3, ground := Ground.phase }, { on := 4, ground := Ground.phase }, { on := 5, ground := Ground.textOnly Departure.lateStores }, { on := 6, ground := Ground.textOnly Departure.lateStores }, { on := 7, ground := Ground.textOnly Departure.lateStores }, { on := 8, ground := Ground.phase }], guard := none }) rfl (fun K hK => ?_) ?_
            obtain ⟨cs, hcs, hcl⟩ := hHeld.row; have HCS := hid hcs; rw [if_pos (by rfl)]; refine wp_store_row _ _ _ rfl _ (nums .u8 rc).toArray rfl rfl _ _ hcs hiR.out (hcl.trans hsz.symm) h1R.out ?_
            refine hK.out _ _ (hHeld.set (by omega) (by omega) _ hsz) (fun hHeld => ?_)
            clear hK K
            (try simp only [List.setIfInBounds_toArray, List.set_cons_zero, List.set_cons_succ])
            refine wpAnyH_take (i := 10) (oi := { dst := some 10, op := Op.assign (Operand.tmp 110), type := 3, pos := "journal.go:87", after := #[{ on := 7, ground := Ground.data }, { on := 9, ground := Ground.chain }, { on := 0, ground := Ground.phase }, { on := 1, ground := Ground.phase }, { on := 2, ground := Ground.phase }, { on := 3, ground := Ground.phase }, { on := 4, ground := Ground.phase }, { on := 5, ground := Ground.phase }, { on := 6, ground := Ground.phase }, { on := 7, ground := Ground.phase }, { on := 8, ground := Ground.phase }, { on := 9, ground := Ground.phase }], guard := none }) (v := ?v1009) rfl (by kernel_rfl) (by kernel_rfl) (by kernel_rfl) (fun _ _ _ h => h) (Or.inl ⟨by rfl, ?hy1009⟩) hHeld ?_
            case hy1009 => (intro w hSw; (try dsimp only at hSw); go_simp; (try with_reducible rfl))
            (try simp only [Act.put, List.setIfInBounds_toArray, List.set_cons_zero, List.set_cons_succ])
            refine wpAnyH_take (i := 11) (oi := { dst := some 11, op := Op.assign (Operand.const (Value.bool true)), type := 4, pos := "journal.go:87", after := #[{ on := 10, ground := Ground.chain }, { on := 0, ground := Ground.phase }, { on := 1, ground := Ground.phase }, { on := 2, ground := Ground.phase }, { on := 3, ground := Ground.phase }, { on := 4, ground := Ground.phase }, { on := 5, ground := Ground.phase }, { on := 6, ground := Ground.phase }, { on := 7, ground := Ground.phase }, { on := 8, ground := Ground.phase }, { on := 9, ground := Ground.phase }, { on := 10, ground := Ground.phase }], guard := none }) (v := ?v1010) rfl (by kernel_rfl) (by kernel_rfl) (by kernel_rfl) (fun _ _ _ h => h) (Or.inl ⟨by rfl, ?hy1010⟩) hHeld ?_
            case hy1010 => (intro w hSw; (try dsimp only at hSw); go_simp; (try with_reducible rfl))
            (try simp only [Act.put, List.setIfInBounds_toArray, List.set_cons_zero, List.set_cons_succ])
            refine wpAnyH_done (by kernel_rfl) ?_ _
            rotate_left
            exact AllReadyH.nil
            all_goals
              have BYE := hHeld.by'
              have BEL := hHeld.bel
              go_wp2_with (fail)
              refine bodyPost_ret (results_tctt rfl _ _ (w.heap.size + 1) _ (nums .u8 rc).toArray _ _ _ _ _ rfl rfl rfl rfl (setRow_heap _ _ _ _ _ _ HCS.out) Tryz.underlying62 rfl hiR.out) rfl ?_
              refine ReadR.yes ?_ BEL BYE (by show 28 ≤ k16 - 36; have := BD.out; omega)
              rw [RC.out, if_neg (fun h => h.elim NL.out NM.out), ← HALL.out, ← HB.out, if_pos EQ.out, ← HRC.out, PT.out]
        have M2 := hid MID
        clear MID A18
        have hiR := hid (show (Tryz.prog.info? 62).map (·.size) = some (nums .u8 rc).toArray.size by rw [List.size_toArray, nums_length, LR.out]; kernel_rfl)
        have h1R := hid (all_oneCell_toArray (nums_oneCell .u8 rc))
        have hoR := hid (show (nums .u8 z32).toArray.size = (nums .u8 rc).toArray.size by rw [List.size_toArray, List.size_toArray, nums_length, nums_length, lz.out, LR.out])
        refine wp_region_held_drew (S := fun w' => Below wr.heap.size wr w') (by kernel_rfl) ((Below.refl _ _).drew) (fun hHeld => ?_)
        try simp only [List.size_toArray, List.length_cons, List.length_nil, Nat.reduceAdd, Array.replicate_succ, Array.replicate_zero, List.push_toArray, List.nil_append, List.cons_append]
        refine' wpAnyH_take (i := 0) (oi := { dst := some 90, op := Op.load 62 (Operand.tmp 7), type := 62, pos := "journal.go:83", after := #[], guard := none }) (v := _) rfl (by kernel_rfl) (by kernel_rfl) (by kernel_rfl) (fun _ _ _ h => h) (yieldsIf_load_mid (by rfl) _ _ rfl w.heap.size 0 rfl (nums .u8 ah) _ (fun _ h => range_keep h RA.out) Tryz.underlying62 rfl hiA.out) hHeld ?_
        (try simp only [Act.put, List.setIfInBounds_toArray, List.set_cons_zero, List.set_cons_succ])
        refine wpAnyH_take (i := 1) (oi := { dst := some 91, op := Op.move (Operand.tmp 16), type := 22, pos := "journal.go:83", after := #[], guard := none }) (v := ?v2001) rfl (by kernel_rfl) (by kernel_rfl) (by kernel_rfl) (fun _ _ _ h => h) (Or.inl ⟨by rfl, ?hy2001⟩) hHeld ?_
        case hy2001 => (intro w hSw; (try dsimp only at hSw); go_simp; (try with_reducible rfl))
        (try simp only [Act.put, List.setIfInBounds_toArray, List.set_cons_zero, List.set_cons_succ])
        refine wpAnyH_take (i := 2) (oi := { dst := some 92, op := Op.move (Operand.tmp 14), type := 3, pos := "journal.go:83", after := #[], guard := none }) (v := ?v2002) rfl (by kernel_rfl) (by kernel_rfl) (by kernel_rfl) (fun _ _ _ h => h) (Or.inl ⟨by rfl, ?hy2002⟩) hHeld ?_
        case hy2002 => (intro w hSw; (try dsimp only at hSw); go_simp; (try with_reducible rfl))
        (try simp only [Act.put, List.setIfInBounds_toArray, List.set_cons_zero, List.set_cons_succ])
        refine wpAnyH_take (i := 3) (oi := { dst := some 93, op := Op.binOp BinOp.add 3 (Operand.const (Value.int IntKind.i64 36)) (Operand.tmp 92) 3, type := 3, pos := "journal.go:83", after := #[{ on := 2, ground := Ground.data }], guard := none }) (v := ?v2003) rfl (by kernel_rfl) (by kernel_rfl) (by kernel_rfl) (fun _ _ _ h => h) (Or.inl ⟨by rfl, ?hy2003⟩) hHeld ?_
        case hy2003 => (intro w hSw; (try dsimp only at hSw); go_simp; (try with_reducible rfl))
        (try simp only [Act.put, List.setIfInBounds_toArray, List.set_cons_zero, List.set_cons_succ])
        refine wpAnyH_take (i := 4) (oi := { dst := some 94, op := Op.slice 22 (Operand.tmp 91) (some (Operand.const (Value.int IntKind.i64 36))) (some (Operand.tmp 93)) none, type := 22, pos := "journal.go:83", after := #[{ on := 1, ground := Ground.data }, { on := 3, ground := Ground.data }], guard := none }) (v := ?v2004) rfl (by kernel_rfl) (by kernel_rfl) (by kernel_rfl) (fun _ _ _ h => h) (Or.inl ⟨by rfl, ?hy2004⟩) hHeld ?_
        case hy2004 => (intro w hSw; (try dsimp only at hSw); go_simp; (try with_reducible rfl))
        (try simp only [Act.put, List.setIfInBounds_toArray, List.set_cons_zero, List.set_cons_succ])
        refine wpAnyH_ready (rs := [5, 9]) (by kernel_rfl) (by simp) ?_
        refine AllReadyH.cons (o := { dst := some 95, op := Op.call { callee := Callee.value (Operand.func 25), args := #[Operand.tmp 90, Operand.tmp 94], argTypes := #[62, 22] }, type := 65, pos := "journal.go:83", after := #[{ on := 0, ground := Ground.data }, { on := 4, ground := Ground.data }], guard := none }) rfl (fun K hK => ?_) ?_
        go_simp; refine (JR _ hHeld).out.mono ?_; rintro e w20 ⟨v20, rfl, o20, b20⟩; rw [← HRC.out]; have O20 := hid o20; have B20 := hid b20; have N20 := hid hHeld.size; clear o20 b20
        refine hK.out _ _ (hHeld.trans (B20.out.mono hHeld.size)) (fun hHeld => ?_)
        clear hK K
        (try simp only [List.setIfInBounds_toArray, List.set_cons_zero, List.set_cons_succ])
        refine wpAnyH_take (i := 6) (oi := { dst := some 89, op := Op.move (Operand.tmp 95), type := 65, pos := "journal.go:83", after := #[{ on := 5, ground := Ground.data }], guard := none }) (v := ?v2005) rfl (by kernel_rfl) (by kernel_rfl) (by kernel_rfl) (fun _ _ _ h => h) (Or.inl ⟨by rfl, ?hy2005⟩) hHeld ?_
        case hy2005 => (intro w hSw; (try dsimp only at hSw); go_simp; (try with_reducible rfl))
        (try simp only [Act.put, List.setIfInBounds_toArray, List.set_cons_zero, List.set_cons_succ])
        refine wpAnyH_take (i := 7) (oi := { dst := some 96, op := Op.extract (Operand.tmp 89) 0, type := 22, pos := "journal.go:83", after := #[{ on := 6, ground := Ground.data }], guard := none }) (v := ?v2006) rfl (by kernel_rfl) (by kernel_rfl) (by kernel_rfl) (fun _ _ _ h => h) (Or.inl ⟨by rfl, ?hy2006⟩) hHeld ?_
        case hy2006 => (intro w hSw; (try dsimp only at hSw); go_simp; (try with_reducible rfl))
        (try simp only [Act.put, List.setIfInBounds_toArray, List.set_cons_zero, List.set_cons_succ])
        refine wpAnyH_take (i := 8) (oi := { dst := some 97, op := Op.extract (Operand.tmp 89) 1, type := 62, pos := "journal.go:83", after := #[{ on := 6, ground := Ground.data }, { on := 10, ground := Ground.gcOnly Departure.lateStores }], guard := none }) (v := ?v2007) rfl (by kernel_rfl) (by kernel_rfl) (by kernel_rfl) (fun _ _ _ h => h) (Or.inl ⟨by rfl, ?hy2007⟩) hHeld ?_
        case hy2007 => (intro w hSw; (try dsimp only at hSw); go_simp; (try with_reducible rfl))
        (try simp only [Act.put, List.setIfInBounds_toArray, List.set_cons_zero, List.set_cons_succ])
        refine wpAnyH_ready (rs := [9]) (by kernel_rfl) (by simp) ?_
        refine AllReadyH.cons (o := { dst := some 21, op := Op.alloc 62, type := 0, pos := "journal.go:83", after := #[], guard := none }) rfl (fun K hK => ?_) ?_
        go_simp; (first | refine newZ ?_ | refine newZd ?_); intro wa hpa bpa; have HV := hid hpa; have BV := hid bpa; have BVL := hid hHeld.size; clear hpa bpa
        refine hK.out _ _ (by first | exact hHeld.trans (BV.out.mono hHeld.size) | exact BV.out | exact hHeld.trans (BV.out.out.mono hHeld.size)) (fun hHeld => ?_)
        clear hK K
        (try simp only [List.setIfInBounds_toArray, List.set_cons_zero, List.set_cons_succ])
        refine wpAnyH_take (i := 10) (oi := { dst := some 20, op := Op.assign (Operand.tmp 96), type := 22, pos := "journal.go:83", after := #[{ on := 7, ground := Ground.data }, { on := 5, ground := Ground.chain }, { on := 0, ground := Ground.phase }, { on := 1, ground := Ground.phase }, { on := 2, ground := Ground.phase }, { on := 3, ground := Ground.phase }, { on := 4, ground := Ground.phase }, { on := 5, ground := Ground.phase }, { on := 6, ground := Ground.phase }, { on := 7, ground := Ground.phase }, { on := 8, ground := Ground.textOnly Departure.lateStores }, { on := 9, ground := Ground.phase }], guard := none }) (v := ?v2008) rfl (by kernel_rfl) (by kernel_rfl) (by kernel_rfl) (fun _ _ _ h => h) (Or.inl ⟨by rfl, ?hy2008⟩) hHeld ?_
        case hy2008 => (intro w hSw; (try dsimp only at hSw); go_simp; (try with_reducible rfl))
        (try simp only [Act.put, List.setIfInBounds_toArray, List.set_cons_zero, List.set_cons_succ])
        refine wpAnyH_ready (rs := [11]) (by kernel_rfl) (by simp) ?_
        refine AllReadyH.cons (o := { dst := none, op := Op.store 62 (Operand.tmp 21) (Operand.tmp 97), type := 0, pos := "journal.go:83", after := #[{ on := 9, ground := Ground.data }, { on := 8, ground := Ground.data }, { on := 10, ground := Ground.chain }, { on := 0, ground := Ground.phase }, { on := 1, ground := Ground.phase }, { on := 2, ground := Ground.phase }, { on := 3, ground := Ground.phase }, { on := 4, ground := Ground.phase }, { on := 5, ground := Ground.phase }, { on := 6, ground := Ground.phase }, { on := 7, ground := Ground.phase }, { on := 8, ground := Ground.phase }, { on := 9, ground := Ground.phase }, { on := 10, ground := Ground.phase }], guard := none }) rfl (fun K hK => ?_) ?_
        rw [if_pos (by rfl)]; refine wp_store_row _ _ _ rfl _ (nums .u8 rc).toArray rfl rfl _ _ (by first | exact HV.out | exact heap_keep HV.out B20.out) hiR.out hoR.out h1R.out ?_
        refine hK.out _ _ (below_setRow hHeld BVL.out _) (fun hHeld => ?_)
        clear hK K
        (try simp only [List.setIfInBounds_toArray, List.set_cons_zero, List.set_cons_succ])
        refine wpAnyH_done (by kernel_rfl) ?_ _
        rotate_left
        exact AllReadyH.nil
        exact AllReadyH.nil
        refine AllReadyH.cons (o := { dst := some 21, op := Op.alloc 62, type := 0, pos := "journal.go:83", after := #[], guard := none }) rfl (fun K hK => ?_) ?_
        go_simp; (first | refine newZ ?_ | refine newZd ?_); intro wa hpa bpa; have HV := hid hpa; have BV := hid bpa; have BVL := hid hHeld.size; clear hpa bpa
        refine hK.out _ _ (by first | exact hHeld.trans (BV.out.mono hHeld.size) | exact BV.out | exact hHeld.trans (BV.out.out.mono hHeld.size)) (fun hHeld => ?_)
        clear hK K
        (try simp only [List.setIfInBounds_toArray, List.set_cons_zero, List.set_cons_succ])
        refine wpAnyH_ready (rs := [5]) (by kernel_rfl) (by simp) ?_
        refine AllReadyH.cons (o := { dst := some 95, op := Op.call { callee := Callee.value (Operand.func 25), args := #[Operand.tmp 90, Operand.tmp 94], argTypes := #[62, 22] }, type := 65, pos := "journal.go:83", after := #[{ on := 0, ground := Ground.data }, { on := 4, ground := Ground.data }], guard := none }) rfl (fun K hK => ?_) ?_
        go_simp; refine (JR _ hHeld).out.mono ?_; rintro e w20 ⟨v20, rfl, o20, b20⟩; rw [← HRC.out]; have O20 := hid o20; have B20 := hid b20; have N20 := hid hHeld.size; clear o20 b20
        refine hK.out _ _ (hHeld.trans (B20.out.mono hHeld.size)) (fun hHeld => ?_)
        clear hK K
        (try simp only [List.setIfInBounds_toArray, List.set_cons_zero, List.set_cons_succ])
        refine wpAnyH_take (i := 6) (oi := { dst := some 89, op := Op.move (Operand.tmp 95), type := 65, pos := "journal.go:83", after := #[{ on := 5, ground := Ground.data }], guard := none }) (v := ?v2009) rfl (by kernel_rfl) (by kernel_rfl) (by kernel_rfl) (fun _ _ _ h => h) (Or.inl ⟨by rfl, ?hy2009⟩) hHeld ?_
        case hy2009 => (intro w hSw; (try dsimp only at hSw); go_simp; (try with_reducible rfl))
        (try simp only [Act.put, List.setIfInBounds_toArray, List.set_cons_zero, List.set_cons_succ])
        refine wpAnyH_take (i := 7) (oi := { dst := some 96, op := Op.extract (Operand.tmp 89) 0, type := 22, pos := "journal.go:83", after := #[{ on := 6, ground := Ground.data }], guard := none }) (v := ?v2010) rfl (by kernel_rfl) (by kernel_rfl) (by kernel_rfl) (fun _ _ _ h => h) (Or.inl ⟨by rfl, ?hy2010⟩) hHeld ?_
        case hy2010 => (intro w hSw; (try dsimp only at hSw); go_simp; (try with_reducible rfl))
        (try simp only [Act.put, List.setIfInBounds_toArray, List.set_cons_zero, List.set_cons_succ])
        refine wpAnyH_take (i := 8) (oi := { dst := some 97, op := Op.extract (Operand.tmp 89) 1, type := 62, pos := "journal.go:83", after := #[{ on := 6, ground := Ground.data }, { on := 10, ground := Ground.gcOnly Departure.lateStores }], guard := none }) (v := ?v2011) rfl (by kernel_rfl) (by kernel_rfl) (by kernel_rfl) (fun _ _ _ h => h) (Or.inl ⟨by rfl, ?hy2011⟩) hHeld ?_
        case hy2011 => (intro w hSw; (try dsimp only at hSw); go_simp; (try with_reducible rfl))
        (try simp only [Act.put, List.setIfInBounds_toArray, List.set_cons_zero, List.set_cons_succ])
        refine wpAnyH_take (i := 10) (oi := { dst := some 20, op := Op.assign (Operand.tmp 96), type := 22, pos := "journal.go:83", after := #[{ on := 7, ground := Ground.data }, { on := 5, ground := Ground.chain }, { on := 0, ground := Ground.phase }, { on := 1, ground := Ground.phase }, { on := 2, ground := Ground.phase }, { on := 3, ground := Ground.phase }, { on := 4, ground := Ground.phase }, { on := 5, ground := Ground.phase }, { on := 6, ground := Ground.phase }, { on := 7, ground := Ground.phase }, { on := 8, ground := Ground.textOnly Departure.lateStores }, { on := 9, ground := Ground.phase }], guard := none }) (v := ?v2012) rfl (by kernel_rfl) (by kernel_rfl) (by kernel_rfl) (fun _ _ _ h => h) (Or.inl ⟨by rfl, ?hy2012⟩) hHeld ?_
        case hy2012 => (intro w hSw; (try dsimp only at hSw); go_simp; (try with_reducible rfl))
        (try simp only [Act.put, List.setIfInBounds_toArray, List.set_cons_zero, List.set_cons_succ])
        refine wpAnyH_ready (rs := [11]) (by kernel_rfl) (by simp) ?_
        refine AllReadyH.cons (o := { dst := none, op := Op.store 62 (Operand.tmp 21) (Operand.tmp 97), type := 0, pos := "journal.go:83", after := #[{ on := 9, ground := Ground.data }, { on := 8, ground := Ground.data }, { on := 10, ground := Ground.chain }, { on := 0, ground := Ground.phase }, { on := 1, ground := Ground.phase }, { on := 2, ground := Ground.phase }, { on := 3, ground := Ground.phase }, { on := 4, ground := Ground.phase }, { on := 5, ground := Ground.phase }, { on := 6, ground := Ground.phase }, { on := 7, ground := Ground.phase }, { on := 8, ground := Ground.phase }, { on := 9, ground := Ground.phase }, { on := 10, ground := Ground.phase }], guard := none }) rfl (fun K hK => ?_) ?_
        rw [if_pos (by rfl)]; refine wp_store_row _ _ _ rfl _ (nums .u8 rc).toArray rfl rfl _ _ (by first | exact HV.out | exact heap_keep HV.out B20.out) hiR.out hoR.out h1R.out ?_
        refine hK.out _ _ (below_setRow hHeld BVL.out _) (fun hHeld => ?_)
        clear hK K
        (try simp only [List.setIfInBounds_toArray, List.set_cons_zero, List.set_cons_succ])
        refine wpAnyH_done (by kernel_rfl) ?_ _
        rotate_left
        exact AllReadyH.nil
        exact AllReadyH.nil
        exact AllReadyH.nil
        · refine M2.out _ _ _ _ _ _ _ _ _ _ _ _ (setRow_heap _ _ _ _ _ _ HV.out) BVL.out (Far.own (own_lowB (Below.ownK O20.out BV.out) N20.out) (far_row _ _ _) (fun e => by have := (O20.out.lt _ e).2; omega)) hHeld
        · refine M2.out _ _ _ _ _ _ _ _ _ _ _ _ (setRow_heap _ _ _ _ _ _ (heap_keep HV.out B20.out)) BVL.out (Far.own (own_lowB O20.out N20.out) (far_row _ _ _) (fun e => by have := (O20.out.lt _ e).1; have := (Array.getElem?_eq_some_iff.1 HV.out).1; omega)) hHeld
      case pos =>
        have t5 : decide (i < m) = true := decide_eq_true hlt
        obtain ⟨pi, hpi⟩ : ∃ pi, pi = p + i := ⟨_, rfl⟩
        have nm := NM.out
        have r3 : IntKind.i64.wrap ((p : Int) + (i : Int)) = (pi : Int) := by rw [IntKind.wrap_i64]; have := DI.out.few; omega
        have hpC : p + i < C.length := by omega
        obtain ⟨bs, hbs⟩ : ∃ bs, bs = C.getD (p + i) [] := ⟨_, rfl⟩
        have hcp : C[p + i]? = some bs := by rw [hbs, List.getD_eq_getElem?_getD, List.getElem?_eq_getElem hpC]; rfl
        have hcq : C[pi]? = some bs := by rw [hpi]; exact hcp
        have CQ := hid hcq
        have CR := hid hcp
        have lb := hid (DI.out.sec hcp).1
        obtain ⟨l16, hl16⟩ : ∃ l16, l16 = 64 * i := ⟨_, rfl⟩
        rw [← hl16] at OI
        rw [← hl16]
        obtain ⟨i1, hi1'⟩ : ∃ i1, i1 = i + 1 := ⟨_, rfl⟩
        have r4 : IntKind.i64.wrap ((i : Int) + 1) = (i1 : Int) := by rw [IntKind.wrap_i64]; have := DI.out.few; omega
        have II := hid (show l16 = 64 * i ∧ i < m ∧ i1 = i + 1 ∧ i ≤ 4096 from by have := DI.out.few; omega)
        clear hcp hcq hbs hpi hpC nm bd hlt hi1 him hl16 hi1'
        go_wp2_with (fail)
        refine (dsize_walk DI.out).mono ?_
        rintro e w4 ⟨rfl, rfl⟩
        rw [← SZ.out]
        go_wp2_with (fail)
        refine (dread_walk DI.out pi bs CQ.out).mono ?_
        rintro e w5 ⟨v18, rfl, o5, b5⟩
        rw [lb.out] at o5
        have O5 := hid o5
        have B5 := hid b5
        obtain ⟨g18, k18, rfl⟩ := own_sliceJ o5 (by decide)
        have R5 := hid (show Rd w5 1 (some ⟨g18, 0, none⟩) 64 k18 (nums .u8 bs) from by obtain ⟨a', c', e, hr⟩ := Rd.of_owns o5; simp only [Value.slice.injEq] at e; obtain ⟨rfl, _, rfl⟩ := e; exact hr)
        have OJ := hid (Below.ownK OI.out b5)
        have BJ := hid (show Below w1.heap.size w1 w5 from BI.out.trans (b5.mono BI.out.size))
        clear o5 b5
        go_wp2_with (at_builtin; refine wpList_cat rfl _ _ 22 rfl tyBs w1.heap.size OJ.out rfl rfl R5.out (nums_oneCell _ _) (by have := II.out; omega) (by have := II.out; unfold maxLen; omega) BJ.out.size ?_; intro v6 w6 own6 b6 hs6 _; have O6 := hid own6; have B6 := hid b6; clear own6 b6 hs6)
        go_roundw
        case rel => exact ⟨i1, by have := II.out; omega, by have := II.out; omega, rfl, by
          have o := O6.out
          have ii := II.out
          rw [nums_append, ← allC_succ C p i CR.out, show l16 + 64 = 64 * i1 by omega, ← ii.2.2.1] at o
          exact o, BJ.out.trans B6.out⟩
        case measure => simp [intOf]; have := II.out; omega
end Go.Proofs.YtnophelfpoldfaaGreatDoor
