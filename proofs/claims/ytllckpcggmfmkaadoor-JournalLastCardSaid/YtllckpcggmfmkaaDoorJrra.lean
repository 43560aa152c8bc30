/- The journal's Room, State, Records; all that a nil journal tells. -/
import Derived.Test.YtllckpcggmfmkaaDoorJly
import Derived.Test.YtllckpcggmfmkaaDoorParts
import Derived.Lib.SlBytesConst
namespace Go.Proofs.YtllckpcggmfmkaaDoor
open Go.RowKit

theorem jroom_nil (w : World) : Calls Tryd.prog 16 #[.pointer none] w fun e w' => e = .returned (.int .i64 (-1)) ∧ w = w' := by
  go_enter Tryd.func16, Tryd.ntmps16
  go_wp2
  go_ret
  exact ⟨rfl, rfl⟩
theorem jstate_nil (w : World) : Calls Tryd.prog 15 #[.pointer none] w fun e w' => e = .returned (.slice none 0 0) ∧ w = w' := by
  go_enter Tryd.func15, Tryd.ntmps15
  go_wp2
  go_ret
  exact ⟨rfl, rfl⟩
theorem jrecs_nil (w : World) : Calls Tryd.prog 14 #[.pointer none] w fun e w' => e = .returned (.slice none 0 0) ∧ w = w' := by
  go_enter Tryd.func14, Tryd.ntmps14
  go_wp2
  go_ret
  exact ⟨rfl, rfl⟩
theorem japp_nil (w : World) (v : Value) : Calls Tryd.prog 13 #[.pointer none, v] w fun e w' => e = .returned (.int .i64 40) ∧ w = w' := by
  go_enter Tryd.func13, Tryd.ntmps13
  go_wp2
  go_ret
  exact ⟨rfl, rfl⟩
theorem jput_nil (w : World) (v : Value) : Calls Tryd.prog 12 #[.pointer none, v] w fun e w' => e = .returned (.int .i64 40) ∧ w = w' := by
  go_enter Tryd.func12, Tryd.ntmps12
  go_wp2
  go_ret
  exact ⟨rfl, rfl⟩
theorem jroom_walk {w : World} {jb db Bj Bd half next turn : Nat} {chk st : List Nat} {rv sd : Value} {rs C : List (List Nat)} (j : JourAt w jb db Bj half next turn chk st rv rs) (h : DiskAt w db Bd sd (.slice none 0 0) C []) (hx : next ≤ C.length / 2) :
    Calls Tryd.prog 16 #[.pointer (some ⟨jb, 0, none⟩)] w fun e w' => e = .returned (.int .i64 ((((C.length / 2 - next) * 64 : Nat) : Int) - 36)) ∧ Below w.heap.size w w' := by
  obtain ⟨sv, hj, _⟩ := j.ex
  have D := hid h
  have few := h.few
  have c0 := hj.c0
  have c2 := hj.c2
  obtain ⟨sz, hsz⟩ : ∃ sz, sz = C.length / 2 := ⟨_, rfl⟩
  obtain ⟨d, hd⟩ : ∃ d, d = sz - next := ⟨_, rfl⟩
  obtain ⟨d64, hd64⟩ : ∃ d64, d64 = d * 64 := ⟨_, rfl⟩
  obtain ⟨ro, hro⟩ : ∃ ro : Int, ro = (d64 : Int) - 36 := ⟨_, rfl⟩
  rw [← hsz, ← hd, ← hd64, ← hro]
  have r1 : IntKind.i64.wrap ((sz : Int) - (next : Int)) = (d : Int) := by rw [IntKind.wrap_i64]; omega
  have r2 : IntKind.i64.wrap ((d : Int) * 64) = (d64 : Int) := by rw [IntKind.wrap_i64]; omega
  have r3 : IntKind.i64.wrap ((d64 : Int) - 36) = ro := by rw [IntKind.wrap_i64]; omega
  have DS := fun (wx : World) (bx : Below w.heap.size w wx) => hid (show Calls Tryd.prog 28 #[.pointer (some ⟨db, 0, none⟩)] wx (fun e w' => e = .returned (.int .i64 (sz : Int)) ∧ wx = w') from by have := dsize_walk (D.out.below bx); rw [← hsz] at this; exact this)
  clear j hj h hx few hsz hd hd64 hro
  go_enter Tryd.func16, Tryd.ntmps16
  go_upto_region 3 with (fail)
  go_quiet ((go_at_call 28; exact quiet_same (DS _ (below_drewN (Below.refl _ _) _)).out))
  go_wp2_with (fail)
  go_ret
  exact ⟨rfl, below_drewN (Below.refl _ _) _⟩
theorem jstate_walk {w : World} {jb db Bj half next turn : Nat} {chk st : List Nat} {rv : Value} {rs : List (List Nat)} (j : JourAt w jb db Bj half next turn chk st rv rs) (hn : st.length < 4294967296) :
    Calls Tryd.prog 15 #[.pointer (some ⟨jb, 0, none⟩)] w (Cl8 w st) := by
  obtain ⟨sv, hj, hs⟩ := j.ex
  have c36 := hj.c36
  obtain ⟨a, n, c, rfl, hl, _⟩ := hs
  have HL := hid hl
  have HN := hid (show n < 4294967296 by rw [← hl.len]; exact hn)
  clear j hj hl hn
  go_enter Tryd.func15, Tryd.ntmps15
  go_wp2_with (fail)
  refine (clone8_walk a n c st w HL.out HN.out).mono ?_
  rintro e w1 ⟨v, rfl, o1, b1⟩
  have O1 := hid o1
  have B1 := hid b1
  clear o1 b1
  go_wp2_with (fail)
  go_ret
  exact ⟨v, rfl, O1.out, B1.out⟩
theorem own_facts {w w' : World} {B i : Nat} {v : Value} {vs : List Value} (h : w.ownsRow B 23 1 v i vs) (b : Below w.heap.size w w') : ∀ g, v.ownBlock = some g → NoBy w g ∧ NoBy w' g ∧ B ≤ g :=
  fun _ hg => ⟨own_noBy h (by decide) hg, own_noBy (Below.ownK h b) (by decide) hg, (h.lt _ hg).1⟩
def RecsR (w : World) (rs : List (List Nat)) (e : Ending) (w' : World) : Prop := ∃ v vs, e = .returned v ∧ w'.ownsRow w.heap.size 23 1 v rs.length vs ∧ Recs w' vs rs ∧ Below w.heap.size w w'
def RrI (w : World) (rs : List (List Nat)) (i : Nat) (v : Value) (wr : World) : Prop := ∃ vs, wr.ownsRow w.heap.size 23 1 v i vs ∧ Recs wr vs (rs.take i) ∧ Below w.heap.size w wr
set_option maxRecDepth 100000 in
set_option maxHeartbeats 4000000 in
theorem jrecs_walk {w : World} {jb db Bj half next turn : Nat} {chk st : List Nat} {rv : Value} {rs : List (List Nat)} (j : JourAt w jb db Bj half next turn chk st rv rs) (hn : rs.length < 4294967296) (hl : ∀ r ∈ rs, r.length < 4294967296) :
    Calls Tryd.prog 14 #[.pointer (some ⟨jb, 0, none⟩)] w (RecsR w rs) := by
  obtain ⟨sv, hj, _⟩ := j.ex
  have c37 := hj.c37
  obtain ⟨vs, ho, hr⟩ := j.row
  have RS := hid hr
  have HN := hid hn
  have HL := hid hl
  obtain ⟨a, c, rfl, hd⟩ := Rd.of_owns ho
  have RD := hid hd
  obtain ⟨N, hN⟩ : ∃ N, N = rs.length := ⟨_, rfl⟩
  have NN := hid hN
  rw [← hN] at c37
  clear j hj ho hr hn hl hd hN
  go_enter Tryd.func14, Tryd.ntmps14
  go_upto_region 5 with (fail)
  go_loopw [3, 13] (fun x3 x13 wr => ∃ i : Nat, i ≤ N ∧ x13 = .int .i64 (i : Int) ∧ RrI w rs i x3 wr) (fun _ x13 _ => N - (intOf x13).toNat)
  case atStart => exact ⟨0, Nat.zero_le _, rfl, [], ⟨by simp, .inl ⟨rfl, rfl⟩⟩, Recs.nil _, Below.refl _ _⟩
  case round =>
    obtain ⟨i, hi, rfl, vi, hoi, hri, hbi⟩ := hrel
    have OI := hid hoi
    have RI := hid hri
    have BI := hid hbi
    have HI := hid hi
    clear hoi hri hbi
    by_cases hlt : i < N
    case neg =>
      obtain rfl : i = N := by omega
      have t1 : decide (i < i) = false := decide_eq_false (by omega)
      have t2 : decide ((i : Int) < (i : Int)) = false := decide_eq_false (by omega)
      clear hi hlt
      go_wp2_with (fail)
      go_ret
      have hr := RI.out
      rw [NN.out, List.take_length] at hr
      have ho := OI.out
      rw [NN.out] at ho
      exact ⟨_, vi, rfl, ho, hr, BI.out⟩
    have t1 : decide (i < N) = true := decide_eq_true hlt
    have t2 : decide ((i : Int) < (N : Int)) = true := decide_eq_true (by omega)
    have hir : i < rs.length := by rw [← NN.out]; exact hlt
    have hiv : i < vs.length := by rw [RS.out.1]; exact hir
    obtain ⟨r, hr⟩ : ∃ r, rs[i]? = some r := ⟨_, List.getElem?_eq_getElem hir⟩
    obtain ⟨v, hv⟩ : ∃ v, vs[i]? = some v := ⟨_, List.getElem?_eq_getElem hiv⟩
    have by0 := (RS.out.2 i v r hv hr).below (w' := wr) (by exact BI.out)
    have hrl : r.length < 4294967296 := HL.out r (List.mem_of_getElem? hr)
    obtain ⟨_, _, _, _, b, off, ha, hc⟩ := RD.out
    obtain rfl := ha (by omega)
    have cq := cell_keep BI.out (hc i v hv)
    obtain ⟨a5, n5, c5, rfl, s5, b5, _⟩ := by0
    have S5 := hid s5
    have N5 := hid (show n5 < 4294967296 by rw [← s5.len]; exact hrl)
    have HB := hid b5
    have HR := hid hr
    have s2 : i ≤ N := by omega
    obtain ⟨i1, hi1⟩ : ∃ i1, i1 = i + 1 := ⟨_, rfl⟩
    have r4 : IntKind.i64.wrap ((i : Int) + 1) = (i1 : Int) := by have := HN.out; have := NN.out; rw [IntKind.wrap_i64]; omega
    have I1 := hid hi1
    have LT := hid hlt
    clear hi hlt hir hiv hr hv hrl ha hc s5 b5 hi1 s2
    go_upto_region 7 with (fail)
    go_wp2_with (fail)
    refine (clone8_walk a5 n5 c5 r wr S5.out N5.out).mono ?_
    rintro e w6 ⟨v6, rfl, o6, b6⟩
    have O6 := hid o6
    have B6 := hid b6
    obtain ⟨a6, k6, rfl, _⟩ := Rd.of_owns o6
    clear o6 b6
    go_wp2_with (at_builtin; refine wpList_pushK rfl _ _ 42 rfl tySs w.heap.size (Below.ownK OI.out B6.out) rfl rfl rfl rfl (by have := LT.out; have := HN.out; have := NN.out; omega) (by decide) (Nat.le_trans BI.out.size B6.out.size) ?_; intro v7 w7 own7 k7 nb7; have O7 := hid own7; have K7 := hid k7; clear own7 k7 nb7)
    have N7 := hid (own_facts OI.out B6.out)
    have R7 := hid (show RrI w rs i1 v7 w7 from by
      refine ⟨_, by rw [I1.out]; exact O7.out, ?_, (BI.out.trans (B6.out.mono BI.out.size)).trans (K7.out.below (fun g hg => (N7.out g hg).2.2) (Nat.le_trans BI.out.size B6.out.size))⟩
      rw [I1.out, List.take_add_one, HR.out]
      exact (RI.out.keep ((Keep.of B6.out).trans K7.out) (fun g _ hg => (N7.out g hg).1)).snoc ((ByA.own O6.out HB.out).keep K7.out (fun g _ hg => (N7.out g hg).2.1)))
    clear N7 O7 K7 O6 B6
    go_wp2_with (fail)
    go_roundw
    case rel => exact ⟨i1, by have := I1.out; have := LT.out; omega, rfl, R7.out⟩
    case measure => simp [intOf]; have := I1.out; have := LT.out; omega
end Go.Proofs.YtllckpcggmfmkaaDoor

/- The journal's Open: no disk; a blank disk; a disk whose first half has a journal. -/
namespace Go.Proofs.YtllckpcggmfmkaaDoor
open Go.RowKit

theorem ddown_nil (w : World) : Calls Tryd.prog 24 #[.pointer none] w fun e w' => e = .returned (.bool true) ∧ w = w' := by
  go_enter Tryd.func24, Tryd.ntmps24
  go_wp2
  go_ret
  exact ⟨rfl, rfl⟩
theorem jopen_nil (w : World) : Calls Tryd.prog 11 #[.pointer none] w fun e w' => e = .returned (.tuple #[.pointer none, .int .i64 40]) ∧ w = w' := by
  go_enter Tryd.func11, Tryd.ntmps11
  go_wp2_with (fail)
  refine (ddown_nil w).mono ?_
  rintro e w1 ⟨rfl, rfl⟩
  go_wp2_with (fail)
  go_ret2
  exact ⟨rfl, rfl⟩
theorem sl_nil (w : World) : Sl .u8 w none 0 0 [] := ⟨by simp, Nat.le_refl _, Nat.zero_le _, fun _ => rfl, 0, 0, fun h => absurd h (by decide), by simp⟩
theorem DiskAt.sep {w : World} {db B : Nat} {sd : Value} {C : List (List Nat)} (h : DiskAt w db B sd (.slice none 0 0) C []) : Sep db sd w.heap.size :=
  ⟨Nat.lt_of_lt_of_le h.lt.1 h.lt.2, fun g e => by obtain ⟨vs', o', _⟩ := h.sure; exact (o'.lt _ e).2⟩
def OpenN (w : World) (db Bd : Nat) (sd : Value) (C : List (List Nat)) (e : Ending) (w' : World) : Prop :=
  if 1 ≤ C.length / 2 then ∃ jb, e = .returned (.tuple #[.pointer (some ⟨jb, 0, none⟩), .int .i64 0]) ∧ JourAt w' jb db w.heap.size 0 1 1 (recH z32 (be8 1)) [] (.slice none 0 0) [] ∧ DiskAt w' db Bd sd (.slice none 0 0) (layB C 0 (recB z32 (be8 1)) 1) [] ∧ Keep (fun i => i = db ∨ sd.ownBlock = some i) w w'
  else e = .returned (.tuple #[.pointer none, .int .i64 41]) ∧ Below w.heap.size w w'
set_option maxRecDepth 100000 in
set_option maxHeartbeats 4000000 in
theorem jopen_new {w : World} {db Bd : Nat} {sd : Value} {C : List (List Nat)} (h : DiskAt w db Bd sd (.slice none 0 0) C []) (ht : Tabs w) (hno : ∀ half, half ≤ 1 → ∀ b h t, readC C half 0 z32 = some (b, h, t) → b.length < 8) :
    Calls Tryd.prog 11 #[.pointer (some ⟨db, 0, none⟩)] w (OpenN w db Bd sd C) := by
  have D0 := hid h
  have HT := hid ht
  have NO := hid hno
  clear h ht hno
  go_enter Tryd.func11, Tryd.ntmps11
  go_wp2_with (fail)
  refine (ddown_walk D0.out).mono ?_
  rintro e w1 ⟨rfl, rfl⟩
  go_upto_region 5 with (fail)
  go_loopw [4, 11] (fun x4 x11 wr => ∃ i : Nat, i ≤ 2 ∧ x11 = .int .i64 (i : Int) ∧ x4 = .pointer none ∧ Below w.heap.size w wr) (fun _ x11 _ => 2 - (intOf x11).toNat)
  case atStart => exact ⟨0, by decide, rfl, rfl, Below.refl _ _⟩
  case round =>
    obtain ⟨i, hi, rfl, rfl, hb⟩ := hrel
    have BR := hid hb
    have DR := hid (D0.out.below hb)
    clear hb
    by_cases hlt : i < 2
    case neg =>
      obtain rfl : i = 2 := by omega
      clear hlt hi
      go_wp2_with (fail)
      have bw := (Below.refl wr.heap.size wr).alloc (Nat.le_refl _) (.cells (jcells db 1 0 0 z32 (.slice none 0 0) (.slice none 0 0) false).toArray 64)
      have j1 : JB (wr.alloc (.cells (jcells db 1 0 0 z32 (.slice none 0 0) (.slice none 0 0) false).toArray 64)) wr.heap.size db 1 0 0 z32 (.slice none 0 0) (.slice none 0 0) false := ⟨heap_alloc_new _ _, rfl⟩
      have JA : JourAt (wr.alloc (.cells (jcells db 1 0 0 z32 (.slice none 0 0) (.slice none 0 0) false).toArray 64)) wr.heap.size db w.heap.size 1 0 0 z32 [] (.slice none 0 0) [] := ⟨⟨_, j1, ByA.nil _⟩, by decide, ⟨[], ⟨by simp, .inl ⟨rfl, rfl⟩⟩, Recs.nil _⟩, BR.out.size⟩
      have DA := DR.out.below bw
      have BW := hid (BR.out.trans (bw.mono BR.out.size))
      refine (jput_walk JA DA (by decide) (by decide) D0.out.sep (HT.out.below BW.out) none 0 0 [] (fun w' _ => sl_nil w') (by simp) (by decide) 1 rfl).mono ?_
      rintro e w5 hl
      unfold LayRes at hl
      by_cases hsz : 1 ≤ C.length / 2
      · rw [if_pos ⟨hsz, by decide⟩] at hl
        obtain ⟨rfl, L⟩ := hl
        have LL := hid L
        have HS := hid hsz
        clear L hsz bw j1 JA DA
        go_wp2_with (fail)
        go_ret2
        unfold OpenN
        rw [if_pos HS.out]
        refine ⟨wr.heap.size, rfl, LL.out.ex, ?_, ?_⟩
        · have := LL.out.dsk
          rw [show (1 - 1) * (C.length / 2) + 0 = 0 by omega, List.append_nil] at this
          exact this
        · refine (Keep.of BW.out).then LL.out.keep (fun i hi e => ?_)
          rcases e with e | e | e
          · exact .inl e
          · exact .inr e
          · have := BR.out.size; omega
      · rw [if_neg (fun h => hsz h.1)] at hl
        obtain ⟨rfl, L⟩ := hl
        have LL := hid L
        have HS := hid hsz
        clear L hsz bw j1 JA DA
        go_wp2_with (fail)
        go_ret2
        unfold OpenN
        rw [if_neg HS.out]
        exact ⟨rfl, BW.out.trans (LL.out.mono BW.out.size)⟩
    have t1 : decide (i < 2) = true := decide_eq_true hlt
    have t2 : decide ((i : Int) < 2) = true := decide_eq_true (by omega)
    obtain ⟨i1, hi1⟩ : ∃ i1, i1 = i + 1 := ⟨_, rfl⟩
    have r4 : IntKind.i64.wrap ((i : Int) + 1) = (i1 : Int) := by rw [IntKind.wrap_i64]; omega
    have I1 := hid hi1
    have LT := hid hlt
    clear hi hlt hi1
    go_upto_region 7 with (fail)
    go_wp2_with (fail)
    refine (jload_no DR.out i (by have := LT.out; omega) (HT.out.below BR.out) (NO.out i (by have := LT.out; omega))).mono ?_
    rintro e w5 ⟨rfl, b5⟩
    have B5 := hid (BR.out.trans (b5.mono BR.out.size))
    clear b5
    go_upto_region 8 with (fail)
    refine wp_region_held_drew (S := fun _ => True) (by kernel_rfl) (trivial) (fun hHeld => ?_)
    try simp only [List.size_toArray, List.length_cons, List.length_nil, Nat.reduceAdd, Array.replicate_succ, Array.replicate_zero, List.push_toArray, List.nil_append, List.cons_append]
    refine wpAnyH_take (i := 0) (oi := { dst := some 20, op := Op.move (Operand.tmp 7), type := 4, pos := "journal.go:120", after := #[], guard := none }) (v := ?v1001) rfl (by kernel_rfl) (by kernel_rfl) (by kernel_rfl) (fun _ _ _ h => h) (Or.inl ⟨by rfl, ?hy1001⟩) hHeld ?_
    case hy1001 => (intro w hSw; (try dsimp only at hSw); go_simp; (try with_reducible rfl))
    (try simp only [Act.put, List.setIfInBounds_toArray, List.set_cons_zero, List.set_cons_succ])
    refine wpAnyH_take (i := 1) (oi := { dst := some 21, op := Op.move (Operand.tmp 20), type := 4, pos := "journal.go:120", after := #[{ on := 0, ground := Ground.data }], guard := none }) (v := ?v1002) rfl (by kernel_rfl) (by kernel_rfl) (by kernel_rfl) (fun _ _ _ h => h) (Or.inl ⟨by rfl, ?hy1002⟩) hHeld ?_
    case hy1002 => (intro w hSw; (try dsimp only at hSw); go_simp; (try with_reducible rfl))
    (try simp only [Act.put, List.setIfInBounds_toArray, List.set_cons_zero, List.set_cons_succ])
    refine wpAnyH_take (i := 2) (oi := { dst := some 22, op := Op.move (Operand.tmp 4), type := 37, pos := "journal.go:120", after := #[{ on := 1, ground := Ground.guard }], guard := some (1, true) }) (v := undef) rfl (by kernel_rfl) (by kernel_rfl) (by kernel_rfl) (fun _ _ _ h => h) (Or.inr ⟨by rfl, rfl⟩) hHeld ?_
    (try simp only [Act.put, List.setIfInBounds_toArray, List.set_cons_zero, List.set_cons_succ])
    refine wpAnyH_take (i := 3) (oi := { dst := some 23, op := Op.binOp BinOp.eql 37 (Operand.tmp 22) (Operand.const (Value.pointer none)) 37, type := 4, pos := "journal.go:120", after := #[{ on := 2, ground := Ground.data }, { on := 1, ground := Ground.guard }], guard := some (1, true) }) (v := undef) rfl (by kernel_rfl) (by kernel_rfl) (by kernel_rfl) (fun _ _ _ h => h) (Or.inr ⟨by rfl, rfl⟩) hHeld ?_
    (try simp only [Act.put, List.setIfInBounds_toArray, List.set_cons_zero, List.set_cons_succ])
    refine wpAnyH_take (i := 4) (oi := { dst := some 24, op := Op.move (Operand.tmp 23), type := 4, pos := "journal.go:120", after := #[{ on := 3, ground := Ground.data }, { on := 1, ground := Ground.chain }, { on := 1, ground := Ground.guard }], guard := some (1, true) }) (v := undef) rfl (by kernel_rfl) (by kernel_rfl) (by kernel_rfl) (fun _ _ _ h => h) (Or.inr ⟨by rfl, rfl⟩) hHeld ?_
    (try simp only [Act.put, List.setIfInBounds_toArray, List.set_cons_zero, List.set_cons_succ])
    refine wpAnyH_take (i := 5) (oi := { dst := some 25, op := Op.move (Operand.tmp 6), type := 37, pos := "journal.go:120", after := #[{ on := 4, ground := Ground.guard }], guard := some (4, false) }) (v := undef) rfl (by kernel_rfl) (by kernel_rfl) (by kernel_rfl) (fun _ _ _ h => h) (Or.inr ⟨by rfl, rfl⟩) hHeld ?_
    (try simp only [Act.put, List.setIfInBounds_toArray, List.set_cons_zero, List.set_cons_succ])
    refine wpAnyH_take (i := 6) (oi := { dst := some 26, op := Op.nilCheck (Operand.tmp 25), type := 0, pos := "journal.go:120", after := #[{ on := 5, ground := Ground.data }, { on := 4, ground := Ground.guard }], guard := some (4, false) }) (v := undef) rfl (by kernel_rfl) (by kernel_rfl) (by kernel_rfl) (fun _ _ _ h => h) (Or.inr ⟨by rfl, rfl⟩) hHeld ?_
    (try simp only [Act.put, List.setIfInBounds_toArray, List.set_cons_zero, List.set_cons_succ])
    refine wpAnyH_take (i := 7) (oi := { dst := some 27, op := Op.fieldAddr 64 (Operand.tmp 26) 3, type := 0, pos := "journal.go:120", after := #[{ on := 6, ground := Ground.data }, { on := 4, ground := Ground.guard }], guard := some (4, false) }) (v := undef) rfl (by kernel_rfl) (by kernel_rfl) (by kernel_rfl) (fun _ _ _ h => h) (Or.inr ⟨by rfl, rfl⟩) hHeld ?_
    (try simp only [Act.put, List.setIfInBounds_toArray, List.set_cons_zero, List.set_cons_succ])
    refine wpAnyH_take (i := 8) (oi := { dst := some 28, op := Op.load 22 (Operand.tmp 27), type := 22, pos := "journal.go:120", after := #[{ on := 7, ground := Ground.data }, { on := 4, ground := Ground.guard }], guard := some (4, false) }) (v := undef) rfl (by kernel_rfl) (by kernel_rfl) (by kernel_rfl) (fun _ _ _ h => h) (Or.inr ⟨by rfl, rfl⟩) hHeld ?_
    (try simp only [Act.put, List.setIfInBounds_toArray, List.set_cons_zero, List.set_cons_succ])
    refine wpAnyH_take (i := 9) (oi := { dst := some 29, op := Op.move (Operand.tmp 4), type := 37, pos := "journal.go:120", after := #[{ on := 4, ground := Ground.guard }], guard := some (4, false) }) (v := undef) rfl (by kernel_rfl) (by kernel_rfl) (by kernel_rfl) (fun _ _ _ h => h) (Or.inr ⟨by rfl, rfl⟩) hHeld ?_
    (try simp only [Act.put, List.setIfInBounds_toArray, List.set_cons_zero, List.set_cons_succ])
    refine wpAnyH_take (i := 10) (oi := { dst := some 30, op := Op.nilCheck (Operand.tmp 29), type := 0, pos := "journal.go:120", after := #[{ on := 9, ground := Ground.data }, { on := 4, ground := Ground.guard }], guard := some (4, false) }) (v := undef) rfl (by kernel_rfl) (by kernel_rfl) (by kernel_rfl) (fun _ _ _ h => h) (Or.inr ⟨by rfl, rfl⟩) hHeld ?_
    (try simp only [Act.put, List.setIfInBounds_toArray, List.set_cons_zero, List.set_cons_succ])
    refine wpAnyH_take (i := 11) (oi := { dst := some 31, op := Op.fieldAddr 64 (Operand.tmp 30) 3, type := 0, pos := "journal.go:120", after := #[{ on := 10, ground := Ground.data }, { on := 4, ground := Ground.guard }], guard := some (4, false) }) (v := undef) rfl (by kernel_rfl) (by kernel_rfl) (by kernel_rfl) (fun _ _ _ h => h) (Or.inr ⟨by rfl, rfl⟩) hHeld ?_
    (try simp only [Act.put, List.setIfInBounds_toArray, List.set_cons_zero, List.set_cons_succ])
    refine wpAnyH_take (i := 12) (oi := { dst := some 32, op := Op.load 22 (Operand.tmp 31), type := 22, pos := "journal.go:120", after := #[{ on := 11, ground := Ground.data }, { on := 4, ground := Ground.guard }], guard := some (4, false) }) (v := undef) rfl (by kernel_rfl) (by kernel_rfl) (by kernel_rfl) (fun _ _ _ h => h) (Or.inr ⟨by rfl, rfl⟩) hHeld ?_
    (try simp only [Act.put, List.setIfInBounds_toArray, List.set_cons_zero, List.set_cons_succ])
    refine wpAnyH_take (i := 13) (oi := { dst := some 33, op := Op.binOp BinOp.gtr 22 (Operand.tmp 28) (Operand.tmp 32) 22, type := 4, pos := "journal.go:120", after := #[{ on := 8, ground := Ground.data }, { on := 12, ground := Ground.data }, { on := 4, ground := Ground.guard }], guard := some (4, false) }) (v := undef) rfl (by kernel_rfl) (by kernel_rfl) (by kernel_rfl) (fun _ _ _ h => h) (Or.inr ⟨by rfl, rfl⟩) hHeld ?_
    (try simp only [Act.put, List.setIfInBounds_toArray, List.set_cons_zero, List.set_cons_succ])
    refine wpAnyH_take (i := 14) (oi := { dst := some 34, op := Op.pick (Operand.tmp 24) (Operand.const (Value.bool true)) (Operand.tmp 33), type := 4, pos := "journal.go:120", after := #[{ on := 4, ground := Ground.data }, { on := 13, ground := Ground.data }, { on := 1, ground := Ground.guard }], guard := some (1, true) }) (v := undef) rfl (by kernel_rfl) (by kernel_rfl) (by kernel_rfl) (fun _ _ _ h => h) (Or.inr ⟨by rfl, rfl⟩) hHeld ?_
    (try simp only [Act.put, List.setIfInBounds_toArray, List.set_cons_zero, List.set_cons_succ])
    refine wpAnyH_take (i := 15) (oi := { dst := some 35, op := Op.pick (Operand.tmp 21) (Operand.tmp 34) (Operand.const (Value.bool false)), type := 4, pos := "journal.go:120", after := #[{ on := 1, ground := Ground.data }, { on := 14, ground := Ground.data }], guard := none }) (v := ?v1003) rfl (by kernel_rfl) (by kernel_rfl) (by kernel_rfl) (fun _ _ _ h => h) (Or.inl ⟨by rfl, ?hy1003⟩) hHeld ?_
    case hy1003 => (intro w hSw; (try dsimp only at hSw); go_simp; (try with_reducible rfl))
    (try simp only [Act.put, List.setIfInBounds_toArray, List.set_cons_zero, List.set_cons_succ])
    refine wpAnyH_done (by kernel_rfl) ?_ _
    rotate_left
    go_wp2_with (fail)
    go_roundw
    case rel => exact ⟨i1, by have := I1.out; have := LT.out; omega, rfl, rfl, B5.out.trans (Below.refl _ _).drew⟩
    case measure => simp [intOf]; have := I1.out; have := LT.out; omega
def OpenO (w : World) (db u : Nat) (st : List Nat) (rs : List (List Nat)) (p : Nat) (ck : List Nat) (e : Ending) (w' : World) : Prop :=
  ∃ jb rv, e = .returned (.tuple #[.pointer (some ⟨jb, 0, none⟩), .int .i64 0]) ∧ JourAt w' jb db w.heap.size 0 p u ck st rv rs ∧ Below w.heap.size w w'
set_option maxRecDepth 100000 in
set_option maxHeartbeats 4000000 in
theorem jopen_old {w : World} {db Bd : Nat} {sd : Value} {C : List (List Nat)} (h : DiskAt w db Bd sd (.slice none 0 0) C []) (ht : Tabs w) (hno : ∀ b h t, readC C 1 0 z32 = some (b, h, t) → b.length < 8)
    (u : Nat) (hu : u < 18446744073709551616) (hu0 : 0 < u) (st h0 : List Nat) (t1 : Nat) (hr0 : readC C 0 0 z32 = some (be8 u ++ st, h0, t1)) (rs : List (List Nat)) (p : Nat) (ck : List Nat) (hch : ChainC C 0 t1 h0 rs p ck) :
    Calls Tryd.prog 11 #[.pointer (some ⟨db, 0, none⟩)] w (OpenO w db u st rs p ck) := by
  have D0 := hid h
  have HT := hid ht
  have NO := hid hno
  have LY := hid (jload_walk h 0 (by decide) ht u hu hu0 st h0 t1 hr0 rs p ck hch)
  clear h ht hno hr0 hch hu hu0
  go_enter Tryd.func11, Tryd.ntmps11
  go_wp2_with (fail)
  refine (ddown_walk D0.out).mono ?_
  rintro e w1 ⟨rfl, rfl⟩
  go_upto_region 5 with (fail)
  go_loopw [4, 11] (fun x4 x11 wr => (x11 = .int .i64 0 ∧ x4 = .pointer none ∧ wr = w) ∨ ∃ (i jb : Nat) (rv : Value), 1 ≤ i ∧ i ≤ 2 ∧ x11 = .int .i64 (i : Int) ∧ x4 = .pointer (some ⟨jb, 0, none⟩) ∧ JourAt wr jb db w.heap.size 0 p u ck st rv rs ∧ Below w.heap.size w wr) (fun _ x11 _ => 2 - (intOf x11).toNat)
  case atStart => exact .inl ⟨rfl, rfl, rfl⟩
  case round =>
    rcases hrel with ⟨rfl, rfl, rfl⟩ | ⟨i, jb, rv, hi1, hi, rfl, rfl, hj, hb⟩
    · go_upto_region 7 with (fail)
      go_wp2_with (fail)
      refine LY.out.mono ?_
      rintro e w5 ⟨jb, rv, rfl, j5, b5⟩
      have J5 := hid j5
      have B5 := hid b5
      clear j5 b5
      go_upto_region 8 with (fail)
      refine wp_region_held_drew (S := fun _ => True) (by kernel_rfl) (trivial) (fun hHeld => ?_)
      try simp only [List.size_toArray, List.length_cons, List.length_nil, Nat.reduceAdd, Array.replicate_succ, Array.replicate_zero, List.push_toArray, List.nil_append, List.cons_append]
      refine wpAnyH_take (i := 0) (oi := { dst := some 20, op := Op.move (Operand.tmp 7), type := 4, pos := "journal.go:120", after := #[], guard := none }) (v := ?v2001) rfl (by kernel_rfl) (by kernel_rfl) (by kernel_rfl) (fun _ _ _ h => h) (Or.inl ⟨by rfl, ?hy2001⟩) hHeld ?_
      case hy2001 => (intro w hSw; (try dsimp only at hSw); go_simp; (try with_reducible rfl))
      (try simp only [Act.put, List.setIfInBounds_toArray, List.set_cons_zero, List.set_cons_succ])
      refine wpAnyH_take (i := 1) (oi := { dst := some 21, op := Op.move (Operand.tmp 20), type := 4, pos := "journal.go:120", after := #[{ on := 0, ground := Ground.data }], guard := none }) (v := ?v2002) rfl (by kernel_rfl) (by kernel_rfl) (by kernel_rfl) (fun _ _ _ h => h) (Or.inl ⟨by rfl, ?hy2002⟩) hHeld ?_
      case hy2002 => (intro w hSw; (try dsimp only at hSw); go_simp; (try with_reducible rfl))
      (try simp only [Act.put, List.setIfInBounds_toArray, List.set_cons_zero, List.set_cons_succ])
      refine wpAnyH_take (i := 2) (oi := { dst := some 22, op := Op.move (Operand.tmp 4), type := 37, pos := "journal.go:120", after := #[{ on := 1, ground := Ground.guard }], guard := some (1, true) }) (v := ?v2003) rfl (by kernel_rfl) (by kernel_rfl) (by kernel_rfl) (fun _ _ _ h => h) (Or.inl ⟨by rfl, ?hy2003⟩) hHeld ?_
      case hy2003 => (intro w hSw; (try dsimp only at hSw); go_simp; (try with_reducible rfl))
      (try simp only [Act.put, List.setIfInBounds_toArray, List.set_cons_zero, List.set_cons_succ])
      refine wpAnyH_take (i := 3) (oi := { dst := some 23, op := Op.binOp BinOp.eql 37 (Operand.tmp 22) (Operand.const (Value.pointer none)) 37, type := 4, pos := "journal.go:120", after := #[{ on := 2, ground := Ground.data }, { on := 1, ground := Ground.guard }], guard := some (1, true) }) (v := ?v2004) rfl (by kernel_rfl) (by kernel_rfl) (by kernel_rfl) (fun _ _ _ h => h) (Or.inl ⟨by rfl, ?hy2004⟩) hHeld ?_
      case hy2004 => (intro w hSw; (try dsimp only at hSw); go_simp; (try with_reducible rfl))
      (try simp only [Act.put, List.setIfInBounds_toArray, List.set_cons_zero, List.set_cons_succ])
      refine wpAnyH_take (i := 4) (oi := { dst := some 24, op := Op.move (Operand.tmp 23), type := 4, pos := "journal.go:120", after := #[{ on := 3, ground := Ground.data }, { on := 1, ground := Ground.chain }, { on := 1, ground := Ground.guard }], guard := some (1, true) }) (v := ?v2005) rfl (by kernel_rfl) (by kernel_rfl) (by kernel_rfl) (fun _ _ _ h => h) (Or.inl ⟨by rfl, ?hy2005⟩) hHeld ?_
      case hy2005 => (intro w hSw; (try dsimp only at hSw); go_simp; (try with_reducible rfl))
      (try simp only [Act.put, List.setIfInBounds_toArray, List.set_cons_zero, List.set_cons_succ])
      refine wpAnyH_take (i := 5) (oi := { dst := some 25, op := Op.move (Operand.tmp 6), type := 37, pos := "journal.go:120", after := #[{ on := 4, ground := Ground.guard }], guard := some (4, false) }) (v := undef) rfl (by kernel_rfl) (by kernel_rfl) (by kernel_rfl) (fun _ _ _ h => h) (Or.inr ⟨by rfl, rfl⟩) hHeld ?_
      (try simp only [Act.put, List.setIfInBounds_toArray, List.set_cons_zero, List.set_cons_succ])
      refine wpAnyH_take (i := 6) (oi := { dst := some 26, op := Op.nilCheck (Operand.tmp 25), type := 0, pos := "journal.go:120", after := #[{ on := 5, ground := Ground.data }, { on := 4, ground := Ground.guard }], guard := some (4, false) }) (v := undef) rfl (by kernel_rfl) (by kernel_rfl) (by kernel_rfl) (fun _ _ _ h => h) (Or.inr ⟨by rfl, rfl⟩) hHeld ?_
      (try simp only [Act.put, List.setIfInBounds_toArray, List.set_cons_zero, List.set_cons_succ])
      refine wpAnyH_take (i := 7) (oi := { dst := some 27, op := Op.fieldAddr 64 (Operand.tmp 26) 3, type := 0, pos := "journal.go:120", after := #[{ on := 6, ground := Ground.data }, { on := 4, ground := Ground.guard }], guard := some (4, false) }) (v := undef) rfl (by kernel_rfl) (by kernel_rfl) (by kernel_rfl) (fun _ _ _ h => h) (Or.inr ⟨by rfl, rfl⟩) hHeld ?_
      (try simp only [Act.put, List.setIfInBounds_toArray, List.set_cons_zero, List.set_cons_succ])
      refine wpAnyH_take (i := 8) (oi := { dst := some 28, op := Op.load 22 (Operand.tmp 27), type := 22, pos := "journal.go:120", after := #[{ on := 7, ground := Ground.data }, { on := 4, ground := Ground.guard }], guard := some (4, false) }) (v := undef) rfl (by kernel_rfl) (by kernel_rfl) (by kernel_rfl) (fun _ _ _ h => h) (Or.inr ⟨by rfl, rfl⟩) hHeld ?_
      (try simp only [Act.put, List.setIfInBounds_toArray, List.set_cons_zero, List.set_cons_succ])
      refine wpAnyH_take (i := 9) (oi := { dst := some 29, op := Op.move (Operand.tmp 4), type := 37, pos := "journal.go:120", after := #[{ on := 4, ground := Ground.guard }], guard := some (4, false) }) (v := undef) rfl (by kernel_rfl) (by kernel_rfl) (by kernel_rfl) (fun _ _ _ h => h) (Or.inr ⟨by rfl, rfl⟩) hHeld ?_
      (try simp only [Act.put, List.setIfInBounds_toArray, List.set_cons_zero, List.set_cons_succ])
      refine wpAnyH_take (i := 10) (oi := { dst := some 30, op := Op.nilCheck (Operand.tmp 29), type := 0, pos := "journal.go:120", after := #[{ on := 9, ground := Ground.data }, { on := 4, ground := Ground.guard }], guard := some (4, false) }) (v := undef) rfl (by kernel_rfl) (by kernel_rfl) (by kernel_rfl) (fun _ _ _ h => h) (Or.inr ⟨by rfl, rfl⟩) hHeld ?_
      (try simp only [Act.put, List.setIfInBounds_toArray, List.set_cons_zero, List.set_cons_succ])
      refine wpAnyH_take (i := 11) (oi := { dst := some 31, op := Op.fieldAddr 64 (Operand.tmp 30) 3, type := 0, pos := "journal.go:120", after := #[{ on := 10, ground := Ground.data }, { on := 4, ground := Ground.guard }], guard := some (4, false) }) (v := undef) rfl (by kernel_rfl) (by kernel_rfl) (by kernel_rfl) (fun _ _ _ h => h) (Or.inr ⟨by rfl, rfl⟩) hHeld ?_
      (try simp only [Act.put, List.setIfInBounds_toArray, List.set_cons_zero, List.set_cons_succ])
      refine wpAnyH_take (i := 12) (oi := { dst := some 32, op := Op.load 22 (Operand.tmp 31), type := 22, pos := "journal.go:120", after := #[{ on := 11, ground := Ground.data }, { on := 4, ground := Ground.guard }], guard := some (4, false) }) (v := undef) rfl (by kernel_rfl) (by kernel_rfl) (by kernel_rfl) (fun _ _ _ h => h) (Or.inr ⟨by rfl, rfl⟩) hHeld ?_
      (try simp only [Act.put, List.setIfInBounds_toArray, List.set_cons_zero, List.set_cons_succ])
      refine wpAnyH_take (i := 13) (oi := { dst := some 33, op := Op.binOp BinOp.gtr 22 (Operand.tmp 28) (Operand.tmp 32) 22, type := 4, pos := "journal.go:120", after := #[{ on := 8, ground := Ground.data }, { on := 12, ground := Ground.data }, { on := 4, ground := Ground.guard }], guard := some (4, false) }) (v := undef) rfl (by kernel_rfl) (by kernel_rfl) (by kernel_rfl) (fun _ _ _ h => h) (Or.inr ⟨by rfl, rfl⟩) hHeld ?_
      (try simp only [Act.put, List.setIfInBounds_toArray, List.set_cons_zero, List.set_cons_succ])
      refine wpAnyH_take (i := 14) (oi := { dst := some 34, op := Op.pick (Operand.tmp 24) (Operand.const (Value.bool true)) (Operand.tmp 33), type := 4, pos := "journal.go:120", after := #[{ on := 4, ground := Ground.data }, { on := 13, ground := Ground.data }, { on := 1, ground := Ground.guard }], guard := some (1, true) }) (v := ?v2006) rfl (by kernel_rfl) (by kernel_rfl) (by kernel_rfl) (fun _ _ _ h => h) (Or.inl ⟨by rfl, ?hy2006⟩) hHeld ?_
      case hy2006 => (intro w hSw; (try dsimp only at hSw); go_simp; (try with_reducible rfl))
      (try simp only [Act.put, List.setIfInBounds_toArray, List.set_cons_zero, List.set_cons_succ])
      refine wpAnyH_take (i := 15) (oi := { dst := some 35, op := Op.pick (Operand.tmp 21) (Operand.tmp 34) (Operand.const (Value.bool false)), type := 4, pos := "journal.go:120", after := #[{ on := 1, ground := Ground.data }, { on := 14, ground := Ground.data }], guard := none }) (v := ?v2007) rfl (by kernel_rfl) (by kernel_rfl) (by kernel_rfl) (fun _ _ _ h => h) (Or.inl ⟨by rfl, ?hy2007⟩) hHeld ?_
      case hy2007 => (intro w hSw; (try dsimp only at hSw); go_simp; (try with_reducible rfl))
      (try simp only [Act.put, List.setIfInBounds_toArray, List.set_cons_zero, List.set_cons_succ])
      refine wpAnyH_done (by kernel_rfl) ?_ _
      rotate_left
      go_wp2_with (fail)
      go_roundw
      case rel => exact .inr ⟨1, jb, rv, by decide, by decide, rfl, rfl, J5.out.below (Below.refl _ _).drew, B5.out.trans (Below.refl _ _).drew⟩
      case measure => simp [intOf]
    · have BR := hid hb
      have JR := hid hj
      have DR := hid (D0.out.below hb)
      clear hb hj
      by_cases hlt : i < 2
      case neg =>
        obtain rfl : i = 2 := by omega
        clear hlt hi hi1
        go_wp2_with (fail)
        go_ret2
        exact ⟨jb, rv, rfl, JR.out, BR.out⟩
      obtain rfl : i = 1 := by omega
      clear hlt hi hi1
      go_upto_region 7 with (fail)
      go_wp2_with (fail)
      refine (jload_no DR.out 1 (by decide) (HT.out.below BR.out) NO.out).mono ?_
      rintro e w5 ⟨rfl, b5⟩
      have B5 := hid b5
      clear b5
      go_upto_region 8 with (fail)
      refine wp_region_held_drew (S := fun _ => True) (by kernel_rfl) (trivial) (fun hHeld => ?_)
      try simp only [List.size_toArray, List.length_cons, List.length_nil, Nat.reduceAdd, Array.replicate_succ, Array.replicate_zero, List.push_toArray, List.nil_append, List.cons_append]
      refine wpAnyH_take (i := 0) (oi := { dst := some 20, op := Op.move (Operand.tmp 7), type := 4, pos := "journal.go:120", after := #[], guard := none }) (v := ?v3001) rfl (by kernel_rfl) (by kernel_rfl) (by kernel_rfl) (fun _ _ _ h => h) (Or.inl ⟨by rfl, ?hy3001⟩) hHeld ?_
      case hy3001 => (intro w hSw; (try dsimp only at hSw); go_simp; (try with_reducible rfl))
      (try simp only [Act.put, List.setIfInBounds_toArray, List.set_cons_zero, List.set_cons_succ])
      refine wpAnyH_take (i := 1) (oi := { dst := some 21, op := Op.move (Operand.tmp 20), type := 4, pos := "journal.go:120", after := #[{ on := 0, ground := Ground.data }], guard := none }) (v := ?v3002) rfl (by kernel_rfl) (by kernel_rfl) (by kernel_rfl) (fun _ _ _ h => h) (Or.inl ⟨by rfl, ?hy3002⟩) hHeld ?_
      case hy3002 => (intro w hSw; (try dsimp only at hSw); go_simp; (try with_reducible rfl))
      (try simp only [Act.put, List.setIfInBounds_toArray, List.set_cons_zero, List.set_cons_succ])
      refine wpAnyH_take (i := 2) (oi := { dst := some 22, op := Op.move (Operand.tmp 4), type := 37, pos := "journal.go:120", after := #[{ on := 1, ground := Ground.guard }], guard := some (1, true) }) (v := undef) rfl (by kernel_rfl) (by kernel_rfl) (by kernel_rfl) (fun _ _ _ h => h) (Or.inr ⟨by rfl, rfl⟩) hHeld ?_
      (try simp only [Act.put, List.setIfInBounds_toArray, List.set_cons_zero, List.set_cons_succ])
      refine wpAnyH_take (i := 3) (oi := { dst := some 23, op := Op.binOp BinOp.eql 37 (Operand.tmp 22) (Operand.const (Value.pointer none)) 37, type := 4, pos := "journal.go:120", after := #[{ on := 2, ground := Ground.data }, { on := 1, ground := Ground.guard }], guard := some (1, true) }) (v := undef) rfl (by kernel_rfl) (by kernel_rfl) (by kernel_rfl) (fun _ _ _ h => h) (Or.inr ⟨by rfl, rfl⟩) hHeld ?_
      (try simp only [Act.put, List.setIfInBounds_toArray, List.set_cons_zero, List.set_cons_succ])
      refine wpAnyH_take (i := 4) (oi := { dst := some 24, op := Op.move (Operand.tmp 23), type := 4, pos := "journal.go:120", after := #[{ on := 3, ground := Ground.data }, { on := 1, ground := Ground.chain }, { on := 1, ground := Ground.guard }], guard := some (1, true) }) (v := undef) rfl (by kernel_rfl) (by kernel_rfl) (by kernel_rfl) (fun _ _ _ h => h) (Or.inr ⟨by rfl, rfl⟩) hHeld ?_
      (try simp only [Act.put, List.setIfInBounds_toArray, List.set_cons_zero, List.set_cons_succ])
      refine wpAnyH_take (i := 5) (oi := { dst := some 25, op := Op.move (Operand.tmp 6), type := 37, pos := "journal.go:120", after := #[{ on := 4, ground := Ground.guard }], guard := some (4, false) }) (v := undef) rfl (by kernel_rfl) (by kernel_rfl) (by kernel_rfl) (fun _ _ _ h => h) (Or.inr ⟨by rfl, rfl⟩) hHeld ?_
      (try simp only [Act.put, List.setIfInBounds_toArray, List.set_cons_zero, List.set_cons_succ])
      refine wpAnyH_take (i := 6) (oi := { dst := some 26, op := Op.nilCheck (Operand.tmp 25), type := 0, pos := "journal.go:120", after := #[{ on := 5, ground := Ground.data }, { on := 4, ground := Ground.guard }], guard := some (4, false) }) (v := undef) rfl (by kernel_rfl) (by kernel_rfl) (by kernel_rfl) (fun _ _ _ h => h) (Or.inr ⟨by rfl, rfl⟩) hHeld ?_
      (try simp only [Act.put, List.setIfInBounds_toArray, List.set_cons_zero, List.set_cons_succ])
      refine wpAnyH_take (i := 7) (oi := { dst := some 27, op := Op.fieldAddr 64 (Operand.tmp 26) 3, type := 0, pos := "journal.go:120", after := #[{ on := 6, ground := Ground.data }, { on := 4, ground := Ground.guard }], guard := some (4, false) }) (v := undef) rfl (by kernel_rfl) (by kernel_rfl) (by kernel_rfl) (fun _ _ _ h => h) (Or.inr ⟨by rfl, rfl⟩) hHeld ?_
      (try simp only [Act.put, List.setIfInBounds_toArray, List.set_cons_zero, List.set_cons_succ])
      refine wpAnyH_take (i := 8) (oi := { dst := some 28, op := Op.load 22 (Operand.tmp 27), type := 22, pos := "journal.go:120", after := #[{ on := 7, ground := Ground.data }, { on := 4, ground := Ground.guard }], guard := some (4, false) }) (v := undef) rfl (by kernel_rfl) (by kernel_rfl) (by kernel_rfl) (fun _ _ _ h => h) (Or.inr ⟨by rfl, rfl⟩) hHeld ?_
      (try simp only [Act.put, List.setIfInBounds_toArray, List.set_cons_zero, List.set_cons_succ])
      refine wpAnyH_take (i := 9) (oi := { dst := some 29, op := Op.move (Operand.tmp 4), type := 37, pos := "journal.go:120", after := #[{ on := 4, ground := Ground.guard }], guard := some (4, false) }) (v := undef) rfl (by kernel_rfl) (by kernel_rfl) (by kernel_rfl) (fun _ _ _ h => h) (Or.inr ⟨by rfl, rfl⟩) hHeld ?_
      (try simp only [Act.put, List.setIfInBounds_toArray, List.set_cons_zero, List.set_cons_succ])
      refine wpAnyH_take (i := 10) (oi := { dst := some 30, op := Op.nilCheck (Operand.tmp 29), type := 0, pos := "journal.go:120", after := #[{ on := 9, ground := Ground.data }, { on := 4, ground := Ground.guard }], guard := some (4, false) }) (v := undef) rfl (by kernel_rfl) (by kernel_rfl) (by kernel_rfl) (fun _ _ _ h => h) (Or.inr ⟨by rfl, rfl⟩) hHeld ?_
      (try simp only [Act.put, List.setIfInBounds_toArray, List.set_cons_zero, List.set_cons_succ])
      refine wpAnyH_take (i := 11) (oi := { dst := some 31, op := Op.fieldAddr 64 (Operand.tmp 30) 3, type := 0, pos := "journal.go:120", after := #[{ on := 10, ground := Ground.data }, { on := 4, ground := Ground.guard }], guard := some (4, false) }) (v := undef) rfl (by kernel_rfl) (by kernel_rfl) (by kernel_rfl) (fun _ _ _ h => h) (Or.inr ⟨by rfl, rfl⟩) hHeld ?_
      (try simp only [Act.put, List.setIfInBounds_toArray, List.set_cons_zero, List.set_cons_succ])
      refine wpAnyH_take (i := 12) (oi := { dst := some 32, op := Op.load 22 (Operand.tmp 31), type := 22, pos := "journal.go:120", after := #[{ on := 11, ground := Ground.data }, { on := 4, ground := Ground.guard }], guard := some (4, false) }) (v := undef) rfl (by kernel_rfl) (by kernel_rfl) (by kernel_rfl) (fun _ _ _ h => h) (Or.inr ⟨by rfl, rfl⟩) hHeld ?_
      (try simp only [Act.put, List.setIfInBounds_toArray, List.set_cons_zero, List.set_cons_succ])
      refine wpAnyH_take (i := 13) (oi := { dst := some 33, op := Op.binOp BinOp.gtr 22 (Operand.tmp 28) (Operand.tmp 32) 22, type := 4, pos := "journal.go:120", after := #[{ on := 8, ground := Ground.data }, { on := 12, ground := Ground.data }, { on := 4, ground := Ground.guard }], guard := some (4, false) }) (v := undef) rfl (by kernel_rfl) (by kernel_rfl) (by kernel_rfl) (fun _ _ _ h => h) (Or.inr ⟨by rfl, rfl⟩) hHeld ?_
      (try simp only [Act.put, List.setIfInBounds_toArray, List.set_cons_zero, List.set_cons_succ])
      refine wpAnyH_take (i := 14) (oi := { dst := some 34, op := Op.pick (Operand.tmp 24) (Operand.const (Value.bool true)) (Operand.tmp 33), type := 4, pos := "journal.go:120", after := #[{ on := 4, ground := Ground.data }, { on := 13, ground := Ground.data }, { on := 1, ground := Ground.guard }], guard := some (1, true) }) (v := undef) rfl (by kernel_rfl) (by kernel_rfl) (by kernel_rfl) (fun _ _ _ h => h) (Or.inr ⟨by rfl, rfl⟩) hHeld ?_
      (try simp only [Act.put, List.setIfInBounds_toArray, List.set_cons_zero, List.set_cons_succ])
      refine wpAnyH_take (i := 15) (oi := { dst := some 35, op := Op.pick (Operand.tmp 21) (Operand.tmp 34) (Operand.const (Value.bool false)), type := 4, pos := "journal.go:120", after := #[{ on := 1, ground := Ground.data }, { on := 14, ground := Ground.data }], guard := none }) (v := ?v3003) rfl (by kernel_rfl) (by kernel_rfl) (by kernel_rfl) (fun _ _ _ h => h) (Or.inl ⟨by rfl, ?hy3003⟩) hHeld ?_
      case hy3003 => (intro w hSw; (try dsimp only at hSw); go_simp; (try with_reducible rfl))
      (try simp only [Act.put, List.setIfInBounds_toArray, List.set_cons_zero, List.set_cons_succ])
      refine wpAnyH_done (by kernel_rfl) ?_ _
      rotate_left
      go_wp2_with (fail)
      go_roundw
      case rel => exact .inr ⟨2, jb, rv, by decide, by decide, rfl, rfl, (JR.out.below B5.out).below (Below.refl _ _).drew, (BR.out.trans (B5.out.mono BR.out.size)).trans (Below.refl _ _).drew⟩
      case measure => simp [intOf]
end Go.Proofs.YtllckpcggmfmkaaDoor

/- The law's same: two lists of byte slices that read alike. -/
namespace Go.Proofs.YtllckpcggmfmkaaDoor
open Go.RowKit

/-- values that are slices of bytes -/
def Els (w : World) (vs : List Value) (xs : List (List Nat)) : Prop := vs.length = xs.length ∧ ∀ (i : Nat) (v : Value) (r : List Nat), vs[i]? = some v → xs[i]? = some r → ∃ a n c, v = .slice a n c ∧ Sl .u8 w a n c r ∧ ∀ d ∈ r, d < 256
theorem Recs.els {w : World} {vs : List Value} {xs : List (List Nat)} (h : Recs w vs xs) : Els w vs xs :=
  ⟨h.1, fun i v r hv hr => by obtain ⟨a, n, c, e, hs, hb, _⟩ := h.2 i v r hv hr; exact ⟨a, n, c, e, hs, hb⟩⟩
theorem Els.below {w w' : World} {vs : List Value} {xs : List (List Nat)} (h : Els w vs xs) (b : Below w.heap.size w w') : Els w' vs xs :=
  ⟨h.1, fun i v r hv hr => by obtain ⟨a, n, c, e, hs, hb⟩ := h.2 i v r hv hr; exact ⟨a, n, c, e, hs.below b, hb⟩⟩
theorem Els.nil (w : World) : Els w [] [] := ⟨rfl, fun i v r h => by simp at h⟩
theorem Els.snoc {w : World} {vs : List Value} {rs : List (List Nat)} (h : Els w vs rs) {a : Option Addr} {n c : Nat} {r : List Nat} (hs : Sl .u8 w a n c r) (hb : ∀ d ∈ r, d < 256) : Els w (vs ++ [.slice a n c]) (rs ++ [r]) := by
  refine ⟨by simp [h.1], fun i u s hu hs' => ?_⟩
  by_cases hi : i < vs.length
  · rw [List.getElem?_append_left hi] at hu
    rw [List.getElem?_append_left (by have := h.1; omega)] at hs'
    exact h.2 i u s hu hs'
  · rw [List.getElem?_append_right (by omega)] at hu
    rw [List.getElem?_append_right (by have := h.1; omega), ← h.1] at hs'
    have : i - vs.length = 0 := by have := (List.getElem?_eq_some_iff.1 hu).1; simp at this; omega
    rw [this] at hu hs'
    simp at hu hs'
    subst hu hs'
    exact ⟨a, n, c, rfl, hs, hb⟩
set_option maxRecDepth 100000 in
set_option maxHeartbeats 4000000 in
theorem lsame_walk (w : World) (a a' : Option Addr) (c c' : Nat) (vs vs' : List Value) (xs : List (List Nat)) (N : Nat) (hN : N = xs.length) (h : Rd w 1 a N c vs) (h' : Rd w 1 a' N c' vs') (e : Els w vs xs) (e' : Els w vs' xs) :
    Calls Tryd.prog 17 #[.slice a N c, .slice a' N c'] w fun e w' => e = .returned (.bool true) ∧ Below w.heap.size w w' := by
  have E1 := hid e
  have E2 := hid e'
  have H1 := hid h
  have H2 := hid h'
  have NN := hid hN
  have t0 : ((N : Int) == (N : Int)) = true := beq_self_eq_true _
  have nl : N ≤ 9223372036854775807 := by have := h.2.1; have := h.2.2.1; unfold maxLen at this; omega
  have NL := hid nl
  clear e e' h h' hN nl
  go_enter Tryd.func17, Tryd.ntmps17
  go_upto_region 4 with (fail)
  go_loopw [13] (fun x13 wr => ∃ i : Nat, i ≤ N ∧ x13 = .int .i64 (i : Int) ∧ Below w.heap.size w wr) (fun x13 _ => N - (intOf x13).toNat)
  case atStart => exact ⟨0, Nat.zero_le _, rfl, Below.refl _ _⟩
  case round =>
    obtain ⟨i, hi, rfl, hb⟩ := hrel
    have BR := hid hb
    clear hb
    by_cases hlt : i < N
    case neg =>
      obtain rfl : i = N := by omega
      have t1 : decide (i < i) = false := decide_eq_false (by omega)
      have t2 : decide ((i : Int) < (i : Int)) = false := decide_eq_false (by omega)
      clear hi hlt
      go_wp2_with (fail)
      go_ret
      exact ⟨rfl, BR.out⟩
    have t1 : decide (i < N) = true := decide_eq_true hlt
    have t2 : decide ((i : Int) < (N : Int)) = true := decide_eq_true (by omega)
    have hir : i < xs.length := by rw [← NN.out]; exact hlt
    obtain ⟨r, hr⟩ : ∃ r, xs[i]? = some r := ⟨_, List.getElem?_eq_getElem hir⟩
    obtain ⟨v, hv⟩ : ∃ v, vs[i]? = some v := ⟨_, List.getElem?_eq_getElem (by rw [E1.out.1]; exact hir)⟩
    obtain ⟨v', hv'⟩ : ∃ v, vs'[i]? = some v := ⟨_, List.getElem?_eq_getElem (by rw [E2.out.1]; exact hir)⟩
    obtain ⟨a5, n5, c5, rfl, s5, b5⟩ := E1.out.2 i v r hv hr
    obtain ⟨a6, n6, c6, rfl, s6, _⟩ := E2.out.2 i v' r hv' hr
    obtain ⟨_, _, _, _, b, off, ha, hc⟩ := H1.out
    obtain rfl := ha (by omega)
    have cq := cell_keep BR.out (hc i _ hv)
    obtain ⟨_, _, _, _, b', off', ha', hc'⟩ := H2.out
    obtain rfl := ha' (by omega)
    have cq' := cell_keep BR.out (hc' i _ hv')
    have S5 := hid (s5.below BR.out)
    have S6 := hid (s6.below BR.out)
    have B5 := hid b5
    have t6 : (i : Int) < (N : Int) := by omega
    have t7 : ¬ ((N : Int) ≤ (i : Int)) := by omega
    have t8 : ¬ (N ≤ i) := by omega
    have t9 : i < N := hlt
    obtain ⟨i1, hi1⟩ : ∃ i1, i1 = i + 1 := ⟨_, rfl⟩
    have r4 : IntKind.i64.wrap ((i : Int) + 1) = (i1 : Int) := by have := NL.out; rw [IntKind.wrap_i64]; omega
    have I1 := hid hi1
    have LT := hid hlt
    clear hi hlt hir hv hv' hr ha hc ha' hc' s5 s6 b5 hi1
    go_upto_region 6 with (fail)
    refine wp_region_held_drew (S := fun w' => Below wr.heap.size wr w') (by kernel_rfl) ((Below.refl _ _).drew) (fun hHeld => ?_)
    try simp only [List.size_toArray, List.length_cons, List.length_nil, Nat.reduceAdd, Array.replicate_succ, Array.replicate_zero, List.push_toArray, List.nil_append, List.cons_append]
    refine wpAnyH_take (i := 0) (oi := { dst := some 16, op := Op.move (Operand.tmp 0), type := 42, pos := "law.go:34", after := #[], guard := none }) (v := ?v1001) rfl (by kernel_rfl) (by kernel_rfl) (by kernel_rfl) (fun _ _ _ h => h) (Or.inl ⟨by rfl, ?hy1001⟩) hHeld ?_
    case hy1001 => (intro w hSw; (try dsimp only at hSw); go_simp; (try with_reducible rfl))
    (try simp only [Act.put, List.setIfInBounds_toArray, List.set_cons_zero, List.set_cons_succ])
    refine wpAnyH_take (i := 1) (oi := { dst := some 17, op := Op.move (Operand.tmp 5), type := 3, pos := "law.go:34", after := #[], guard := none }) (v := ?v1002) rfl (by kernel_rfl) (by kernel_rfl) (by kernel_rfl) (fun _ _ _ h => h) (Or.inl ⟨by rfl, ?hy1002⟩) hHeld ?_
    case hy1002 => (intro w hSw; (try dsimp only at hSw); go_simp; (try with_reducible rfl))
    (try simp only [Act.put, List.setIfInBounds_toArray, List.set_cons_zero, List.set_cons_succ])
    refine wpAnyH_take (i := 2) (oi := { dst := some 18, op := Op.indexAddr 42 (Operand.tmp 16) (Operand.tmp 17), type := 0, pos := "law.go:34", after := #[{ on := 0, ground := Ground.data }, { on := 1, ground := Ground.data }], guard := none }) (v := ?v1003) rfl (by kernel_rfl) (by kernel_rfl) (by kernel_rfl) (fun _ _ _ h => h) (Or.inl ⟨by rfl, ?hy1003⟩) hHeld ?_
    case hy1003 => (intro w hSw; (try dsimp only at hSw); go_simp; (try with_reducible rfl))
    (try simp only [Act.put, List.setIfInBounds_toArray, List.set_cons_zero, List.set_cons_succ])
    refine wpAnyH_take (i := 3) (oi := { dst := some 19, op := Op.load 23 (Operand.tmp 18), type := 23, pos := "law.go:34", after := #[{ on := 2, ground := Ground.data }], guard := none }) (v := (.slice a5 n5 c5)) rfl (by kernel_rfl) (by kernel_rfl) (by kernel_rfl) (fun _ _ _ h => h) (Or.inl ⟨by rfl, fun w h => by have c9 := cell_keep h cq; go_simp⟩) hHeld ?_
    (try simp only [Act.put, List.setIfInBounds_toArray, List.set_cons_zero, List.set_cons_succ])
    refine wpAnyH_take (i := 4) (oi := { dst := some 20, op := Op.move (Operand.tmp 1), type := 42, pos := "law.go:34", after := #[], guard := none }) (v := ?v1004) rfl (by kernel_rfl) (by kernel_rfl) (by kernel_rfl) (fun _ _ _ h => h) (Or.inl ⟨by rfl, ?hy1004⟩) hHeld ?_
    case hy1004 => (intro w hSw; (try dsimp only at hSw); go_simp; (try with_reducible rfl))
    (try simp only [Act.put, List.setIfInBounds_toArray, List.set_cons_zero, List.set_cons_succ])
    refine wpAnyH_take (i := 5) (oi := { dst := some 21, op := Op.move (Operand.tmp 5), type := 3, pos := "law.go:34", after := #[], guard := none }) (v := ?v1005) rfl (by kernel_rfl) (by kernel_rfl) (by kernel_rfl) (fun _ _ _ h => h) (Or.inl ⟨by rfl, ?hy1005⟩) hHeld ?_
    case hy1005 => (intro w hSw; (try dsimp only at hSw); go_simp; (try with_reducible rfl))
    (try simp only [Act.put, List.setIfInBounds_toArray, List.set_cons_zero, List.set_cons_succ])
    refine wpAnyH_take (i := 6) (oi := { dst := some 22, op := Op.indexAddr 42 (Operand.tmp 20) (Operand.tmp 21), type := 0, pos := "law.go:34", after := #[{ on := 4, ground := Ground.data }, { on := 5, ground := Ground.data }], guard := none }) (v := ?v1006) rfl (by kernel_rfl) (by kernel_rfl) (by kernel_rfl) (fun _ _ _ h => h) (Or.inl ⟨by rfl, ?hy1006⟩) hHeld ?_
    case hy1006 => (intro w hSw; (try dsimp only at hSw); go_simp; (try with_reducible rfl))
    (try simp only [Act.put, List.setIfInBounds_toArray, List.set_cons_zero, List.set_cons_succ])
    refine wpAnyH_take (i := 7) (oi := { dst := some 23, op := Op.load 23 (Operand.tmp 22), type := 23, pos := "law.go:34", after := #[{ on := 6, ground := Ground.data }], guard := none }) (v := (.slice a6 n6 c6)) rfl (by kernel_rfl) (by kernel_rfl) (by kernel_rfl) (fun _ _ _ h => h) (Or.inl ⟨by rfl, fun w h => by have c9 := cell_keep h cq'; go_simp⟩) hHeld ?_
    (try simp only [Act.put, List.setIfInBounds_toArray, List.set_cons_zero, List.set_cons_succ])
    refine wpAnyH_ready (rs := [8]) (by kernel_rfl) (by simp) ?_
    refine AllReadyH.cons (o := { dst := some 24, op := Op.call { callee := Callee.value (Operand.func 31), args := #[Operand.tmp 19, Operand.tmp 23], argTypes := #[23, 23] }, type := 4, pos := "law.go:34", after := #[{ on := 3, ground := Ground.data }, { on := 7, ground := Ground.data }], guard := none }) rfl (fun K hK => ?_) ?_
    go_simp; refine (same_self _ _ _ _ _ _ r B5.out _ (S5.out.below hHeld) (S6.out.below hHeld)).mono ?_; rintro e wq ⟨rfl, rfl⟩
    refine hK.out _ _ (hHeld) (fun hHeld => ?_)
    clear hK K
    (try simp only [List.setIfInBounds_toArray, List.set_cons_zero, List.set_cons_succ])
    refine wpAnyH_take (i := 9) (oi := { dst := some 25, op := Op.unOp UnOp.not 4 (Operand.tmp 24), type := 4, pos := "law.go:34", after := #[{ on := 8, ground := Ground.data }], guard := none }) (v := ?v1007) rfl (by kernel_rfl) (by kernel_rfl) (by kernel_rfl) (fun _ _ _ h => h) (Or.inl ⟨by rfl, ?hy1007⟩) hHeld ?_
    case hy1007 => (intro w hSw; (try dsimp only at hSw); go_simp; (try with_reducible rfl))
    (try simp only [Act.put, List.setIfInBounds_toArray, List.set_cons_zero, List.set_cons_succ])
    refine wpAnyH_done (by kernel_rfl) ?_ _
    rotate_left
    exact AllReadyH.nil
    go_wp2_with (fail)
    go_roundw
    case rel => exact ⟨i1, by have := I1.out; have := LT.out; omega, rfl, BR.out.trans (hHeld.mono BR.out.size)⟩
    case measure => simp [intOf]; have := I1.out; have := LT.out; omega
end Go.Proofs.YtllckpcggmfmkaaDoor

/- The chapter's head: the document's example. -/
namespace Go.Proofs.YtllckpcggmfmkaaDoor
open Go.RowKit

theorem z64_get {n i : Nat} (h : i < n) : (List.replicate n z64)[i]? = some blank := by rw [List.getElem?_replicate, if_pos h]; rfl
theorem fresh_no (n half : Nat) (hh : half ≤ 1) (b h : List Nat) (t : Nat) (hr : readC (List.replicate n z64) half 0 z32 = some (b, h, t)) : b.length < 8 := by
  have o := readC_out hr
  rw [List.length_replicate] at o
  have hs2 : half * (n / 2) ≤ n / 2 := by have := Nat.mul_le_mul_right (n / 2) hh; omega
  have := readC_blank0 (C := List.replicate n z64) (half := half) (at' := 0) (by rw [List.length_replicate]; exact z64_get (by omega)) hr
  rw [this.1]; decide
theorem hb_of {w : World} {db Bd : Nat} {sd : Value} {C : List (List Nat)} {a : Option Addr} {n c : Nat} {b : List Nat} (h : ByA w (.slice a n c) b) (d : DiskAt w db Bd sd (.slice none 0 0) C []) (w' : World) (k : Keep (fun i => i = db ∨ sd.ownBlock = some i) w w') : Sl .u8 w' a n c b := by
  obtain ⟨a', n', c', e, hs, _⟩ := h.keep k (fun i _ e => by
    rcases e with rfl | e
    · exact d.noBy
    · obtain ⟨vs', o', _⟩ := d.sure
      exact own_noBy o' (by decide) e)
  simp only [Value.slice.injEq] at e
  obtain ⟨rfl, rfl, rfl⟩ := e
  exact hs
/-- the example's disk -/
def hdC0 : List (List Nat) := List.replicate 20 z64
def hdH : List Nat := recH z32 (be8 1)
def hdC1 : List (List Nat) := layB hdC0 0 (recB z32 (be8 1)) 1
def hdC2 : List (List Nat) := layB hdC1 (0 * (hdC1.length / 2) + 1) (recB hdH [97]) 1
theorem hdC1_len : hdC1.length = 20 := by unfold hdC1; rw [layB_len]; unfold hdC0; rw [List.length_replicate]
theorem hdC2_len : hdC2.length = 20 := by unfold hdC2; rw [layB_len, hdC1_len]
theorem hdC2_blank {i : Nat} (h1 : 2 ≤ i) (h2 : i < 20) : hdC2[i]? = some blank := by
  unfold hdC2
  rw [layB_out (by rw [hdC1_len]; omega) (by omega)]
  unfold hdC1
  rw [layB_out (by unfold hdC0; rw [List.length_replicate]; omega) (by omega)]
  exact z64_get h2
theorem hd_read0 : readC hdC2 0 0 z32 = some (be8 1, hdH, 1) := by
  have h : readC hdC1 0 0 z32 = some (be8 1, hdH, 0 + 1) := by
    have := readC_lay (C := hdC0) (half := 0) (at' := 0) (ah := z32) (b := be8 1) (K := 1) (by rw [be8_len]) (by decide) (by unfold hdC0; rw [List.length_replicate]; decide) (by rw [be8_len]; decide)
    rw [show 0 * (hdC0.length / 2) + 0 = 0 by omega] at this
    exact this
  refine readC_keep h (by decide) (by rw [hdC2_len, hdC1_len]) (fun i h1 h2 => ?_)
  unfold hdC2
  exact layB_out (by rw [hdC1_len]; omega) (by omega)
theorem hd_chain : ChainC hdC2 0 1 hdH [[97]] 2 (recH hdH [97]) := by
  refine ⟨_, _, readC_lay (C := hdC1) (half := 0) (at' := 1) (ah := hdH) (b := [97]) (K := 1) rfl (by decide) (by rw [hdC1_len]; decide) (by decide), ?_, rfl, rfl⟩
  exact readC_blank (by rw [hdC2_len]; exact hdC2_blank (by decide) (by decide)) ne_head
theorem hd_no (b h : List Nat) (t : Nat) (hr : readC hdC2 1 0 z32 = some (b, h, t)) : b.length < 8 := by
  have := readC_blank0 (by rw [hdC2_len]; exact hdC2_blank (by decide) (by decide)) hr
  rw [this.1]; decide
set_option maxRecDepth 100000 in
set_option maxHeartbeats 4000000 in
theorem jhead_walk (w : World) (ht : Tabs w) : Calls Tryd.prog 6 #[] w fun e w' => e = .returned (.bool true) ∧ Below w.heap.size w w' := by
  have HT := hid ht
  clear ht
  go_enter Tryd.func6, Tryd.ntmps6
  go_wp2_with (fail)
  refine (dnew_walk 20 rfl w).mono ?_
  rintro e w1 ⟨rfl, sd, d1, b1⟩
  have D1 := hid (show DiskAt w1 w.heap.size (w.heap.size + 1) sd (.slice none 0 0) hdC0 [] from d1)
  have B1 := hid b1
  have SD := hid (show ∀ g, sd.ownBlock = some g → w.heap.size ≤ g from fun g e => by obtain ⟨vs', o', _⟩ := d1.sure; have := (o'.lt _ e).1; omega)
  clear d1 b1
  go_wp2_with (fail)
  refine (jopen_new D1.out (HT.out.below B1.out) (fun half hh b h t hr => fresh_no 20 half hh b h t hr)).mono ?_
  rintro e w2 ho
  unfold OpenN at ho
  rw [if_pos (by unfold hdC0; rw [List.length_replicate]; decide)] at ho
  obtain ⟨jb, rfl, j2, d2, k2⟩ := ho
  have J2 := hid j2
  have D2 := hid (show DiskAt w2 w.heap.size (w.heap.size + 1) sd (.slice none 0 0) hdC1 [] from d2)
  have B2 := hid (show Below w.heap.size w w2 from B1.out.trans (k2.below (fun i e => by
    rcases e with rfl | e
    · exact Nat.le_refl _
    · exact SD.out i e) B1.out.size))
  clear j2 d2 k2
  have cv := Go.Lib.run_convert_bytes_const (P := Tryd.prog) w2 23 5 #[.int .u8 97] 1 1 Tryd.underlying23 Tryd.underlying5
  go_wp2_with (fail)
  have bw := (Below.refl w2.heap.size w2).alloc (Nat.le_refl _) (.cells #[.int .u8 97] 5 (1, 2))
  have cw : (w2.alloc (.cells #[.int .u8 97] 5 (1, 2))).heap[w2.heap.size]? = some (.cells #[.int .u8 97] 5 (1, 2)) := heap_alloc_new _ _
  have hbA : ∀ w', Keep (fun i => i = w.heap.size ∨ sd.ownBlock = some i) (w2.alloc (.cells #[.int .u8 97] 5 (1, 2))) w' → Sl .u8 w' (some ⟨w2.heap.size, 0, none⟩) 1 1 [97] := fun w' k => by
    have hc := k.heap cw (fun e => by
      have := D2.out.lt
      rcases e with e | e
      · omega
      · obtain ⟨vs', o', _⟩ := D2.out.sure
        have := (o'.lt _ e).2; omega)
    refine ⟨rfl, Nat.le_refl _, by decide, (fun e => nomatch e), w2.heap.size, 0, fun _ => rfl, fun j u hu => ?_⟩
    have hj := (List.getElem?_eq_some_iff.1 hu).1
    obtain rfl : j = 0 := by simp at hj; omega
    rw [Nat.zero_add]
    simp only [World.cell?, hc]
    exact hu
  refine (japp_walk (J2.out.below bw) (D2.out.below bw) (by decide) (by decide) ⟨Nat.lt_of_lt_of_le D1.out.lt.1 D1.out.lt.2, fun g e => by obtain ⟨vs', o', _⟩ := D1.out.sure; exact (o'.lt _ e).2⟩ (HT.out.below (B2.out.trans (bw.mono B2.out.size))) (by decide) (some ⟨w2.heap.size, 0, none⟩) 1 1 [97] hbA (by decide) (by decide) 1 rfl).mono ?_
  rintro e w3 ha
  unfold AppRes at ha
  rw [if_pos (by rw [hdC1_len]; decide)] at ha
  obtain ⟨rfl, A⟩ := ha
  have D3 := hid (show DiskAt w3 w.heap.size (w.heap.size + 1) sd (.slice none 0 0) hdC2 [] from A.dsk)
  have B3 := hid (show Below w.heap.size w w3 from (B2.out.trans (bw.mono B2.out.size)).trans (A.keep.below (fun i e => by
    rcases e with rfl | e | rfl | e
    · exact Nat.le_refl _
    · exact SD.out i e
    · exact Nat.le_trans B1.out.size J2.out.lo
    · cases e) (Nat.le_trans B2.out.size bw.size)))
  clear A cv cw hbA bw J2 D2
  go_wp2_with (fail)
  have OP := jopen_old D3.out (HT.out.below B3.out) hd_no 1 (by decide) (by decide) [] hdH 1 (by rw [List.append_nil]; exact hd_read0) [[97]] 2 (recH hdH [97]) hd_chain
  refine OP.mono ?_
  rintro e w4 ⟨kb, kv, rfl, j4, b4⟩
  have J4 := hid j4
  have B4 := hid (B3.out.trans (b4.mono B3.out.size))
  clear OP j4 b4 D3
  go_wp2_with (fail)
  refine (jrecs_walk J4.out (by decide) (by decide)).mono ?_
  rintro e w5 ⟨v, vs, rfl, o5, r5, b5⟩
  obtain ⟨a5, c5, rfl, rd5⟩ := Rd.of_owns o5
  have B5 := hid (B4.out.trans (b5.mono B4.out.size))
  have J5 := hid (J4.out.below b5)
  obtain ⟨v0, hv0⟩ : ∃ v0, vs[0]? = some v0 := ⟨_, List.getElem?_eq_getElem (by rw [r5.1]; decide)⟩
  obtain ⟨a6, n6, c6, rfl, s6, _⟩ := r5.els.2 0 v0 [97] hv0 rfl
  obtain ⟨_, _, _, _, b, off, ha5, hc5⟩ := rd5
  obtain rfl := ha5 (by decide)
  have cq := hc5 0 _ hv0
  have cs := conv_bytes s6 Tryd.underlying23 Tryd.underlying5 Tryd.underlying9
  rw [Nat.add_zero] at cq
  have st2 : (bytesOf [97]).toList = [97] := by rw [bytesOf_toList]; rfl
  have st1 : ((bytesOf [97]).toList == [97]) = true := by rw [beq_iff_eq]; exact st2
  clear o5 r5 b5 hv0 s6 ha5 hc5 J4
  go_wp2_with (fail)
  refine (jstate_walk J5.out (by decide)).mono ?_
  rintro e w6 ⟨v6, rfl, o6, b6⟩
  have B6 := hid (B5.out.trans (b6.mono B5.out.size))
  obtain ⟨a7, c7, rfl, _⟩ := Rd.of_owns o6
  clear o6 b6
  go_wp2_with (fail)
  go_ret
  exact ⟨rfl, B6.out⟩
end Go.Proofs.YtllckpcggmfmkaaDoor
