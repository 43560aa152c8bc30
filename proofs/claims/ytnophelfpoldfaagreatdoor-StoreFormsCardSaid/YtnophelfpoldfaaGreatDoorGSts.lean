/- The journal's Open: no disk; a blank disk; a disk whose first half has a journal. -/
import Derived.Test.YtnophelfpoldfaaGreatDoorJrr
import Derived.Test.YtnophelfpoldfaaGreatDoorGKey
namespace Go.Proofs.YtnophelfpoldfaaGreatDoor
open Go.RowKit

theorem ddown_nil (w : World) : Calls Tryz.prog 23 #[.pointer none] w fun e w' => e = .returned (.bool true) ∧ w = w' := by
  go_enter Tryz.func23, Tryz.ntmps23
  go_wp2
  go_ret
  exact ⟨rfl, rfl⟩
theorem jopen_nil (w : World) : Calls Tryz.prog 8 #[.pointer none] w fun e w' => e = .returned (.tuple #[.pointer none, .int .i64 40]) ∧ w = w' := by
  go_enter Tryz.func8, Tryz.ntmps8
  go_wp2_with (fail)
  refine (ddown_nil w).mono ?_
  rintro e w1 ⟨rfl, rfl⟩
  go_wp2_with (fail)
  go_ret2
  exact ⟨rfl, rfl⟩
theorem sl_nil (w : World) : Sl .u8 w none 0 0 [] := ⟨by simp, Nat.le_refl _, Nat.zero_le _, fun _ => rfl, 0, 0, fun h => absurd h (by decide), by simp⟩
theorem DiskAt.sep {w : World} {db B : Nat} {sd : Value} {C : List (List Nat)} (h : DiskAt w db B sd (.slice none 0 0) C []) : Sep db sd w.heap.size :=
  ⟨Nat.lt_of_lt_of_le h.lt.1 h.lt.2, fun g e => by obtain ⟨vs', o', _⟩ := h.sure; exact (o'.lt _ e).2⟩
def OpenN (w : World) (db Bd : Nat) (sd : Value) (C : List (List Nat)) (e : Ending) (w' : World) : Prop :=
  if 1 ≤ C.length / 2 then ∃ jb, e = .returned (.tuple #[.pointer (some ⟨jb, 0, none⟩), .int .i64 0]) ∧ JourAt w' jb db w.heap.size 0 1 1 (recH z32 (be8 1)) [] (.slice none 0 0) [] ∧ DiskAt w' db Bd sd (.slice none 0 0) (layB C 0 (recB z32 (be8 1)) 1) [] ∧ Keep (fun i => i = db ∨ sd.ownBlock = some i) w w'
  else e = .returned (.tuple #[.pointer none, .int .i64 41]) ∧ Below w.heap.size w w'
set_option maxRecDepth 100000 in
set_option maxHeartbeats 4000000 in
theorem jopen_new {w : World} {db Bd : Nat} {sd : Value} {C : List (List Nat)} (h : DiskAt w db Bd sd (.slice none 0 0) C []) (ht : Tabs w) (hno : ∀ half, half ≤ 1 → ∀ b h t, readC C half 0 z32 = some (b, h, t) → b.length < 8) :
    Calls Tryz.prog 8 #[.pointer (some ⟨db, 0, none⟩)] w (OpenN w db Bd sd C) := by
  have D0 := hid h
  have HT := hid ht
  have NO := hid hno
  clear h ht hno
  go_enter Tryz.func8, Tryz.ntmps8
  go_wp2_with (fail)
  refine (ddown_walk D0.out).mono ?_
  rintro e w1 ⟨rfl, rfl⟩
  go_upto_region 5 with (fail)
  go_loopw [4, 11] (fun x4 x11 wr => ∃ i : Nat, i ≤ 2 ∧ x11 = .int .i64 (i : Int) ∧ x4 = .pointer none ∧ Below w.heap.size w wr) (fun _ x11 _ => 2 - (intOf x11).toNat)
  case atStart => exact ⟨0, by decide, rfl, rfl, Below.refl _ _⟩
  case round =>
    obtain ⟨i, hi, rfl, rfl, hb⟩ := hrel
    have BR := hid hb
    have DR := hid (D0.out.below hb)
    clear hb
    by_cases hlt : i < 2
    case neg =>
      obtain rfl : i = 2 := by omega
      clear hlt hi
      go_wp2_with (fail)
      have bw := (Below.refl wr.heap.size wr).alloc (Nat.le_refl _) (.cells (jcells db 1 0 0 z32 (.slice none 0 0) (.slice none 0 0) false).toArray 64)
      have j1 : JB (wr.alloc (.cells (jcells db 1 0 0 z32 (.slice none 0 0) (.slice none 0 0) false).toArray 64)) wr.heap.size db 1 0 0 z32 (.slice none 0 0) (.slice none 0 0) false := ⟨heap_alloc_new _ _, rfl⟩
      have JA : JourAt (wr.alloc (.cells (jcells db 1 0 0 z32 (.slice none 0 0) (.slice none 0 0) false).toArray 64)) wr.heap.size db w.heap.size 1 0 0 z32 [] (.slice none 0 0) [] := ⟨⟨_, j1, ByA.nil _⟩, by decide, ⟨[], ⟨by simp, .inl ⟨rfl, rfl⟩⟩, JRs.nil _⟩, BR.out.size⟩
      have DA := DR.out.below bw
      have BW := hid (BR.out.trans (bw.mono BR.out.size))
      refine (jput_walk JA DA (by decide) (by decide) D0.out.sep (HT.out.below BW.out) none 0 0 [] (fun w' _ => sl_nil w') (by simp) (by decide) 1 rfl).mono ?_
      rintro e w5 hl
      unfold LayRes at hl
      by_cases hsz : 1 ≤ C.length / 2
      · rw [if_pos ⟨hsz, by decide⟩] at hl
        obtain ⟨rfl, L⟩ := hl
        have LL := hid L
        have HS := hid hsz
        clear L hsz bw j1 JA DA
        go_wp2_with (fail)
        go_ret2
        unfold OpenN
        rw [if_pos HS.out]
        refine ⟨wr.heap.size, rfl, LL.out.ex, ?_, ?_⟩
        · have := LL.out.dsk
          rw [show (1 - 1) * (C.length / 2) + 0 = 0 by omega, List.append_nil] at this
          exact this
        · refine (Keep.of BW.out).then LL.out.keep (fun i hi e => ?_)
          rcases e with e | e | e
          · exact .inl e
          · exact .inr e
          · have := BR.out.size; omega
      · rw [if_neg (fun h => hsz h.1)] at hl
        obtain ⟨rfl, L⟩ := hl
        have LL := hid L
        have HS := hid hsz
        clear L hsz bw j1 JA DA
        go_wp2_with (fail)
        go_ret2
        unfold OpenN
        rw [if_neg HS.out]
        exact ⟨rfl, BW.out.trans (LL.out.mono BW.out.size)⟩
    have t1 : decide (i < 2) = true := decide_eq_true hlt
    have t2 : decide ((i : Int) < 2) = true := decide_eq_true (by omega)
    obtain ⟨i1, hi1⟩ : ∃ i1, i1 = i + 1 := ⟨_, rfl⟩
    have r4 : IntKind.i64.wrap ((i : Int) + 1) = (i1 : Int) := by rw [IntKind.wrap_i64]; omega
    have I1 := hid hi1
    have LT := hid hlt
    clear hi hlt hi1
    go_upto_region 7 with (fail)
    go_wp2_with (fail)
    refine (jload_no DR.out i (by have := LT.out; omega) (HT.out.below BR.out) (NO.out i (by have := LT.out; omega))).mono ?_
    rintro e w5 ⟨rfl, b5⟩
    have B5 := hid (BR.out.trans (b5.mono BR.out.size))
    clear b5
    go_upto_region 8 with (fail)
    refine wp_region_held_drew (S := fun _ => True) (by kernel_rfl) (trivial) (fun hHeld => ?_)
    try simp only [List.size_toArray, List.length_cons, List.length_nil, Nat.reduceAdd, Array.replicate_succ, Array.replicate_zero, List.push_toArray, List.nil_append, List.cons_append]
    refine wpAnyH_take (i := 0) (oi := { dst := some 20, op := Op.move (Operand.tmp 7), type := 4, pos := "journal.go:120", after := #[], guard := none }) (v := ?v1001) rfl (by kernel_rfl) (by kernel_rfl) (by kernel_rfl) (fun _ _ _ h => h) (Or.inl ⟨by rfl, ?hy1001⟩) hHeld ?_
    case hy1001 => (intro w hSw; (try dsimp only at hSw); go_simp; (try with_reducible rfl))
    (try simp only [Act.put, List.setIfInBounds_toArray, List.set_cons_zero, List.set_cons_succ])
    refine wpAnyH_take (i := 1) (oi := { dst := some 21, op := Op.move (Operand.tmp 20), type := 4, pos := "journal.go:120", after := #[{ on := 0, ground := Ground.data }], guard := none }) (v := ?v1002) rfl (by kernel_rfl) (by kernel_rfl) (by kernel_rfl) (fun _ _ _ h => h) (Or.inl ⟨by rfl, ?hy1002⟩) hHeld ?_
    case hy1002 => (intro w hSw; (try dsimp only at hSw); go_simp; (try with_reducible rfl))
    (try simp only [Act.put, List.setIfInBounds_toArray, List.set_cons_zero, List.set_cons_succ])
    refine wpAnyH_take (i := 2) (oi := { dst := some 22, op := Op.move (Operand.tmp 4), type := 26, pos := "journal.go:120", after := #[{ on := 1, ground := Ground.guard }], guard := some (1, true) }) (v := undef) rfl (by kernel_rfl) (by kernel_rfl) (by kernel_rfl) (fun _ _ _ h => h) (Or.inr ⟨by rfl, rfl⟩) hHeld ?_
    (try simp only [Act.put, List.setIfInBounds_toArray, List.set_cons_zero, List.set_cons_succ])
    refine wpAnyH_take (i := 3) (oi := { dst := some 23, op := Op.binOp BinOp.eql 26 (Operand.tmp 22) (Operand.const (Value.pointer none)) 26, type := 4, pos := "journal.go:120", after := #[{ on := 2, ground := Ground.data }, { on := 1, ground := Ground.guard }], guard := some (1, true) }) (v := undef) rfl (by kernel_rfl) (by kernel_rfl) (by kernel_rfl) (fun _ _ _ h => h) (Or.inr ⟨by rfl, rfl⟩) hHeld ?_
    (try simp only [Act.put, List.setIfInBounds_toArray, List.set_cons_zero, List.set_cons_succ])
    refine wpAnyH_take (i := 4) (oi := { dst := some 24, op := Op.move (Operand.tmp 23), type := 4, pos := "journal.go:120", after := #[{ on := 3, ground := Ground.data }, { on := 1, ground := Ground.chain }, { on := 1, ground := Ground.guard }], guard := some (1, true) }) (v := undef) rfl (by kernel_rfl) (by kernel_rfl) (by kernel_rfl) (fun _ _ _ h => h) (Or.inr ⟨by rfl, rfl⟩) hHeld ?_
    (try simp only [Act.put, List.setIfInBounds_toArray, List.set_cons_zero, List.set_cons_succ])
    refine wpAnyH_take (i := 5) (oi := { dst := some 25, op := Op.move (Operand.tmp 6), type := 26, pos := "journal.go:120", after := #[{ on := 4, ground := Ground.guard }], guard := some (4, false) }) (v := undef) rfl (by kernel_rfl) (by kernel_rfl) (by kernel_rfl) (fun _ _ _ h => h) (Or.inr ⟨by rfl, rfl⟩) hHeld ?_
    (try simp only [Act.put, List.setIfInBounds_toArray, List.set_cons_zero, List.set_cons_succ])
    refine wpAnyH_take (i := 6) (oi := { dst := some 26, op := Op.nilCheck (Operand.tmp 25), type := 0, pos := "journal.go:120", after := #[{ on := 5, ground := Ground.data }, { on := 4, ground := Ground.guard }], guard := some (4, false) }) (v := undef) rfl (by kernel_rfl) (by kernel_rfl) (by kernel_rfl) (fun _ _ _ h => h) (Or.inr ⟨by rfl, rfl⟩) hHeld ?_
    (try simp only [Act.put, List.setIfInBounds_toArray, List.set_cons_zero, List.set_cons_succ])
    refine wpAnyH_take (i := 7) (oi := { dst := some 27, op := Op.fieldAddr 64 (Operand.tmp 26) 3, type := 0, pos := "journal.go:120", after := #[{ on := 6, ground := Ground.data }, { on := 4, ground := Ground.guard }], guard := some (4, false) }) (v := undef) rfl (by kernel_rfl) (by kernel_rfl) (by kernel_rfl) (fun _ _ _ h => h) (Or.inr ⟨by rfl, rfl⟩) hHeld ?_
    (try simp only [Act.put, List.setIfInBounds_toArray, List.set_cons_zero, List.set_cons_succ])
    refine wpAnyH_take (i := 8) (oi := { dst := some 28, op := Op.load 60 (Operand.tmp 27), type := 60, pos := "journal.go:120", after := #[{ on := 7, ground := Ground.data }, { on := 4, ground := Ground.guard }], guard := some (4, false) }) (v := undef) rfl (by kernel_rfl) (by kernel_rfl) (by kernel_rfl) (fun _ _ _ h => h) (Or.inr ⟨by rfl, rfl⟩) hHeld ?_
    (try simp only [Act.put, List.setIfInBounds_toArray, List.set_cons_zero, List.set_cons_succ])
    refine wpAnyH_take (i := 9) (oi := { dst := some 29, op := Op.move (Operand.tmp 4), type := 26, pos := "journal.go:120", after := #[{ on := 4, ground := Ground.guard }], guard := some (4, false) }) (v := undef) rfl (by kernel_rfl) (by kernel_rfl) (by kernel_rfl) (fun _ _ _ h => h) (Or.inr ⟨by rfl, rfl⟩) hHeld ?_
    (try simp only [Act.put, List.setIfInBounds_toArray, List.set_cons_zero, List.set_cons_succ])
    refine wpAnyH_take (i := 10) (oi := { dst := some 30, op := Op.nilCheck (Operand.tmp 29), type := 0, pos := "journal.go:120", after := #[{ on := 9, ground := Ground.data }, { on := 4, ground := Ground.guard }], guard := some (4, false) }) (v := undef) rfl (by kernel_rfl) (by kernel_rfl) (by kernel_rfl) (fun _ _ _ h => h) (Or.inr ⟨by rfl, rfl⟩) hHeld ?_
    (try simp only [Act.put, List.setIfInBounds_toArray, List.set_cons_zero, List.set_cons_succ])
    refine wpAnyH_take (i := 11) (oi := { dst := some 31, op := Op.fieldAddr 64 (Operand.tmp 30) 3, type := 0, pos := "journal.go:120", after := #[{ on := 10, ground := Ground.data }, { on := 4, ground := Ground.guard }], guard := some (4, false) }) (v := undef) rfl (by kernel_rfl) (by kernel_rfl) (by kernel_rfl) (fun _ _ _ h => h) (Or.inr ⟨by rfl, rfl⟩) hHeld ?_
    (try simp only [Act.put, List.setIfInBounds_toArray, List.set_cons_zero, List.set_cons_succ])
    refine wpAnyH_take (i := 12) (oi := { dst := some 32, op := Op.load 60 (Operand.tmp 31), type := 60, pos := "journal.go:120", after := #[{ on := 11, ground := Ground.data }, { on := 4, ground := Ground.guard }], guard := some (4, false) }) (v := undef) rfl (by kernel_rfl) (by kernel_rfl) (by kernel_rfl) (fun _ _ _ h => h) (Or.inr ⟨by rfl, rfl⟩) hHeld ?_
    (try simp only [Act.put, List.setIfInBounds_toArray, List.set_cons_zero, List.set_cons_succ])
    refine wpAnyH_take (i := 13) (oi := { dst := some 33, op := Op.binOp BinOp.gtr 60 (Operand.tmp 28) (Operand.tmp 32) 60, type := 4, pos := "journal.go:120", after := #[{ on := 8, ground := Ground.data }, { on := 12, ground := Ground.data }, { on := 4, ground := Ground.guard }], guard := some (4, false) }) (v := undef) rfl (by kernel_rfl) (by kernel_rfl) (by kernel_rfl) (fun _ _ _ h => h) (Or.inr ⟨by rfl, rfl⟩) hHeld ?_
    (try simp only [Act.put, List.setIfInBounds_toArray, List.set_cons_zero, List.set_cons_succ])
    refine wpAnyH_take (i := 14) (oi := { dst := some 34, op := Op.pick (Operand.tmp 24) (Operand.const (Value.bool true)) (Operand.tmp 33), type := 4, pos := "journal.go:120", after := #[{ on := 4, ground := Ground.data }, { on := 13, ground := Ground.data }, { on := 1, ground := Ground.guard }], guard := some (1, true) }) (v := undef) rfl (by kernel_rfl) (by kernel_rfl) (by kernel_rfl) (fun _ _ _ h => h) (Or.inr ⟨by rfl, rfl⟩) hHeld ?_
    (try simp only [Act.put, List.setIfInBounds_toArray, List.set_cons_zero, List.set_cons_succ])
    refine wpAnyH_take (i := 15) (oi := { dst := some 35, op := Op.pick (Operand.tmp 21) (Operand.tmp 34) (Operand.const (Value.bool false)), type := 4, pos := "journal.go:120", after := #[{ on := 1, ground := Ground.data }, { on := 14, ground := Ground.data }], guard := none }) (v := ?v1003) rfl (by kernel_rfl) (by kernel_rfl) (by kernel_rfl) (fun _ _ _ h => h) (Or.inl ⟨by rfl, ?hy1003⟩) hHeld ?_
    case hy1003 => (intro w hSw; (try dsimp only at hSw); go_simp; (try with_reducible rfl))
    (try simp only [Act.put, List.setIfInBounds_toArray, List.set_cons_zero, List.set_cons_succ])
    refine wpAnyH_done (by kernel_rfl) ?_ _
    rotate_left
    go_wp2_with (fail)
    go_roundw
    case rel => exact ⟨i1, by have := I1.out; have := LT.out; omega, rfl, rfl, B5.out.trans (Below.refl _ _).drew⟩
    case measure => simp [intOf]; have := I1.out; have := LT.out; omega
def OpenO (w : World) (db u : Nat) (st : List Nat) (rs : List (List Nat)) (p : Nat) (ck : List Nat) (e : Ending) (w' : World) : Prop :=
  ∃ jb rv, e = .returned (.tuple #[.pointer (some ⟨jb, 0, none⟩), .int .i64 0]) ∧ JourAt w' jb db w.heap.size 0 p u ck st rv rs ∧ Below w.heap.size w w'
set_option maxRecDepth 100000 in
set_option maxHeartbeats 4000000 in
theorem jopen_old {w : World} {db Bd : Nat} {sd : Value} {C : List (List Nat)} (h : DiskAt w db Bd sd (.slice none 0 0) C []) (ht : Tabs w) (hno : ∀ b h t, readC C 1 0 z32 = some (b, h, t) → b.length < 8)
    (u : Nat) (hu : u < 18446744073709551616) (hu0 : 0 < u) (st h0 : List Nat) (t1 : Nat) (hr0 : readC C 0 0 z32 = some (be8 u ++ st, h0, t1)) (rs : List (List Nat)) (p : Nat) (ck : List Nat) (hch : ChainC C 0 t1 h0 rs p ck) :
    Calls Tryz.prog 8 #[.pointer (some ⟨db, 0, none⟩)] w (OpenO w db u st rs p ck) := by
  have D0 := hid h
  have HT := hid ht
  have NO := hid hno
  have LY := hid (jload_walk h 0 (by decide) ht u hu hu0 st h0 t1 hr0 rs p ck hch)
  clear h ht hno hr0 hch hu hu0
  go_enter Tryz.func8, Tryz.ntmps8
  go_wp2_with (fail)
  refine (ddown_walk D0.out).mono ?_
  rintro e w1 ⟨rfl, rfl⟩
  go_upto_region 5 with (fail)
  go_loopw [4, 11] (fun x4 x11 wr => (x11 = .int .i64 0 ∧ x4 = .pointer none ∧ wr = w) ∨ ∃ (i jb : Nat) (rv : Value), 1 ≤ i ∧ i ≤ 2 ∧ x11 = .int .i64 (i : Int) ∧ x4 = .pointer (some ⟨jb, 0, none⟩) ∧ JourAt wr jb db w.heap.size 0 p u ck st rv rs ∧ Below w.heap.size w wr) (fun _ x11 _ => 2 - (intOf x11).toNat)
  case atStart => exact .inl ⟨rfl, rfl, rfl⟩
  case round =>
    rcases hrel with ⟨rfl, rfl, rfl⟩ | ⟨i, jb, rv, hi1, hi, rfl, rfl, hj, hb⟩
    · go_upto_region 7 with (fail)
      go_wp2_with (fail)
      refine LY.out.mono ?_
      rintro e w5 ⟨jb, rv, rfl, j5, b5⟩
      have J5 := hid j5
      have B5 := hid b5
      clear j5 b5
      go_upto_region 8 with (fail)
      refine wp_region_held_drew (S := fun _ => True) (by kernel_rfl) (trivial) (fun hHeld => ?_)
      try simp only [List.size_toArray, List.length_cons, List.length_nil, Nat.reduceAdd, Array.replicate_succ, Array.replicate_zero, List.push_toArray, List.nil_append, List.cons_append]
      refine wpAnyH_take (i := 0) (oi := { dst := some 20, op := Op.move (Operand.tmp 7), type := 4, pos := "journal.go:120", after := #[], guard := none }) (v := ?v2001) rfl (by kernel_rfl) (by kernel_rfl) (by kernel_rfl) (fun _ _ _ h => h) (Or.inl ⟨by rfl, ?hy2001⟩) hHeld ?_
      case hy2001 => (intro w hSw; (try dsimp only at hSw); go_simp; (try with_reducible rfl))
      (try simp only [Act.put, List.setIfInBounds_toArray, List.set_cons_zero, List.set_cons_succ])
      refine wpAnyH_take (i := 1) (oi := { dst := some 21, op := Op.move (Operand.tmp 20), type := 4, pos := "journal.go:120", after := #[{ on := 0, ground := Ground.data }], guard := none }) (v := ?v2002) rfl (by kernel_rfl) (by kernel_rfl) (by kernel_rfl) (fun _ _ _ h => h) (Or.inl ⟨by rfl, ?hy2002⟩) hHeld ?_
      case hy2002 => (intro w hSw; (try dsimp only at hSw); go_simp; (try with_reducible rfl))
      (try simp only [Act.put, List.setIfInBounds_toArray, List.set_cons_zero, List.set_cons_succ])
      refine wpAnyH_take (i := 2) (oi := { dst := some 22, op := Op.move (Operand.tmp 4), type := 26, pos := "journal.go:120", after := #[{ on := 1, ground := Ground.guard }], guard := some (1, true) }) (v := ?v2003) rfl (by kernel_rfl) (by kernel_rfl) (by kernel_rfl) (fun _ _ _ h => h) (Or.inl ⟨by rfl, ?hy2003⟩) hHeld ?_
      case hy2003 => (intro w hSw; (try dsimp only at hSw); go_simp; (try with_reducible rfl))
      (try simp only [Act.put, List.setIfInBounds_toArray, List.set_cons_zero, List.set_cons_succ])
      refine wpAnyH_take (i := 3) (oi := { dst := some 23, op := Op.binOp BinOp.eql 26 (Operand.tmp 22) (Operand.const (Value.pointer none)) 26, type := 4, pos := "journal.go:120", after := #[{ on := 2, ground := Ground.data }, { on := 1, ground := Ground.guard }], guard := some (1, true) }) (v := ?v2004) rfl (by kernel_rfl) (by kernel_rfl) (by kernel_rfl) (fun _ _ _ h => h) (Or.inl ⟨by rfl, ?hy2004⟩) hHeld ?_
      case hy2004 => (intro w hSw; (try dsimp only at hSw); go_simp; (try with_reducible rfl))
      (try simp only [Act.put, List.setIfInBounds_toArray, List.set_cons_zero, List.set_cons_succ])
      refine wpAnyH_take (i := 4) (oi := { dst := some 24, op := Op.move (Operand.tmp 23), type := 4, pos := "journal.go:120", after := #[{ on := 3, ground := Ground.data }, { on := 1, ground := Ground.chain }, { on := 1, ground := Ground.guard }], guard := some (1, true) }) (v := ?v2005) rfl (by kernel_rfl) (by kernel_rfl) (by kernel_rfl) (fun _ _ _ h => h) (Or.inl ⟨by rfl, ?hy2005⟩) hHeld ?_
      case hy2005 => (intro w hSw; (try dsimp only at hSw); go_simp; (try with_reducible rfl))
      (try simp only [Act.put, List.setIfInBounds_toArray, List.set_cons_zero, List.set_cons_succ])
      refine wpAnyH_take (i := 5) (oi := { dst := some 25, op := Op.move (Operand.tmp 6), type := 26, pos := "journal.go:120", after := #[{ on := 4, ground := Ground.guard }], guard := some (4, false) }) (v := undef) rfl (by kernel_rfl) (by kernel_rfl) (by kernel_rfl) (fun _ _ _ h => h) (Or.inr ⟨by rfl, rfl⟩) hHeld ?_
      (try simp only [Act.put, List.setIfInBounds_toArray, List.set_cons_zero, List.set_cons_succ])
      refine wpAnyH_take (i := 6) (oi := { dst := some 26, op := Op.nilCheck (Operand.tmp 25), type := 0, pos := "journal.go:120", after := #[{ on := 5, ground := Ground.data }, { on := 4, ground := Ground.guard }], guard := some (4, false) }) (v := undef) rfl (by kernel_rfl) (by kernel_rfl) (by kernel_rfl) (fun _ _ _ h => h) (Or.inr ⟨by rfl, rfl⟩) hHeld ?_
      (try simp only [Act.put, List.setIfInBounds_toArray, List.set_cons_zero, List.set_cons_succ])
      refine wpAnyH_take (i := 7) (oi := { dst := some 27, op := Op.fieldAddr 64 (Operand.tmp 26) 3, type := 0, pos := "journal.go:120", after := #[{ on := 6, ground := Ground.data }, { on := 4, ground := Ground.guard }], guard := some (4, false) }) (v := undef) rfl (by kernel_rfl) (by kernel_rfl) (by kernel_rfl) (fun _ _ _ h => h) (Or.inr ⟨by rfl, rfl⟩) hHeld ?_
      (try simp only [Act.put, List.setIfInBounds_toArray, List.set_cons_zero, List.set_cons_succ])
      refine wpAnyH_take (i := 8) (oi := { dst := some 28, op := Op.load 60 (Operand.tmp 27), type := 60, pos := "journal.go:120", after := #[{ on := 7, ground := Ground.data }, { on := 4, ground := Ground.guard }], guard := some (4, false) }) (v := undef) rfl (by kernel_rfl) (by kernel_rfl) (by kernel_rfl) (fun _ _ _ h => h) (Or.inr ⟨by rfl, rfl⟩) hHeld ?_
      (try simp only [Act.put, List.setIfInBounds_toArray, List.set_cons_zero, List.set_cons_succ])
      refine wpAnyH_take (i := 9) (oi := { dst := some 29, op := Op.move (Operand.tmp 4), type := 26, pos := "journal.go:120", after := #[{ on := 4, ground := Ground.guard }], guard := some (4, false) }) (v := undef) rfl (by kernel_rfl) (by kernel_rfl) (by kernel_rfl) (fun _ _ _ h => h) (Or.inr ⟨by rfl, rfl⟩) hHeld ?_
      (try simp only [Act.put, List.setIfInBounds_toArray, List.set_cons_zero, List.set_cons_succ])
      refine wpAnyH_take (i := 10) (oi := { dst := some 30, op := Op.nilCheck (Operand.tmp 29), type := 0, pos := "journal.go:120", after := #[{ on := 9, ground := Ground.data }, { on := 4, ground := Ground.guard }], guard := some (4, false) }) (v := undef) rfl (by kernel_rfl) (by kernel_rfl) (by kernel_rfl) (fun _ _ _ h => h) (Or.inr ⟨by rfl, rfl⟩) hHeld ?_
      (try simp only [Act.put, List.setIfInBounds_toArray, List.set_cons_zero, List.set_cons_succ])
      refine wpAnyH_take (i := 11) (oi := { dst := some 31, op := Op.fieldAddr 64 (Operand.tmp 30) 3, type := 0, pos := "journal.go:120", after := #[{ on := 10, ground := Ground.data }, { on := 4, ground := Ground.guard }], guard := some (4, false) }) (v := undef) rfl (by kernel_rfl) (by kernel_rfl) (by kernel_rfl) (fun _ _ _ h => h) (Or.inr ⟨by rfl, rfl⟩) hHeld ?_
      (try simp only [Act.put, List.setIfInBounds_toArray, List.set_cons_zero, List.set_cons_succ])
      refine wpAnyH_take (i := 12) (oi := { dst := some 32, op := Op.load 60 (Operand.tmp 31), type := 60, pos := "journal.go:120", after := #[{ on := 11, ground := Ground.data }, { on := 4, ground := Ground.guard }], guard := some (4, false) }) (v := undef) rfl (by kernel_rfl) (by kernel_rfl) (by kernel_rfl) (fun _ _ _ h => h) (Or.inr ⟨by rfl, rfl⟩) hHeld ?_
      (try simp only [Act.put, List.setIfInBounds_toArray, List.set_cons_zero, List.set_cons_succ])
      refine wpAnyH_take (i := 13) (oi := { dst := some 33, op := Op.binOp BinOp.gtr 60 (Operand.tmp 28) (Operand.tmp 32) 60, type := 4, pos := "journal.go:120", after := #[{ on := 8, ground := Ground.data }, { on := 12, ground := Ground.data }, { on := 4, ground := Ground.guard }], guard := some (4, false) }) (v := undef) rfl (by kernel_rfl) (by kernel_rfl) (by kernel_rfl) (fun _ _ _ h => h) (Or.inr ⟨by rfl, rfl⟩) hHeld ?_
      (try simp only [Act.put, List.setIfInBounds_toArray, List.set_cons_zero, List.set_cons_succ])
      refine wpAnyH_take (i := 14) (oi := { dst := some 34, op := Op.pick (Operand.tmp 24) (Operand.const (Value.bool true)) (Operand.tmp 33), type := 4, pos := "journal.go:120", after := #[{ on := 4, ground := Ground.data }, { on := 13, ground := Ground.data }, { on := 1, ground := Ground.guard }], guard := some (1, true) }) (v := ?v2006) rfl (by kernel_rfl) (by kernel_rfl) (by kernel_rfl) (fun _ _ _ h => h) (Or.inl ⟨by rfl, ?hy2006⟩) hHeld ?_
      case hy2006 => (intro w hSw; (try dsimp only at hSw); go_simp; (try with_reducible rfl))
      (try simp only [Act.put, List.setIfInBounds_toArray, List.set_cons_zero, List.set_cons_succ])
      refine wpAnyH_take (i := 15) (oi := { dst := some 35, op := Op.pick (Operand.tmp 21) (Operand.tmp 34) (Operand.const (Value.bool false)), type := 4, pos := "journal.go:120", after := #[{ on := 1, ground := Ground.data }, { on := 14, ground := Ground.data }], guard := none }) (v := ?v2007) rfl (by kernel_rfl) (by kernel_rfl) (by kernel_rfl) (fun _ _ _ h => h) (Or.inl ⟨by rfl, ?hy2007⟩) hHeld ?_
      case hy2007 => (intro w hSw; (try dsimp only at hSw); go_simp; (try with_reducible rfl))
      (try simp only [Act.put, List.setIfInBounds_toArray, List.set_cons_zero, List.set_cons_succ])
      refine wpAnyH_done (by kernel_rfl) ?_ _
      rotate_left
      go_wp2_with (fail)
      go_roundw
      case rel => exact .inr ⟨1, jb, rv, by decide, by decide, rfl, rfl, J5.out.below (Below.refl _ _).drew, B5.out.trans (Below.refl _ _).drew⟩
      case measure => simp [intOf]
    · have BR := hid hb
      have JR := hid hj
      have DR := hid (D0.out.below hb)
      clear hb hj
      by_cases hlt : i < 2
      case neg =>
        obtain rfl : i = 2 := by omega
        clear hlt hi hi1
        go_wp2_with (fail)
        go_ret2
        exact ⟨jb, rv, rfl, JR.out, BR.out⟩
      obtain rfl : i = 1 := by omega
      clear hlt hi hi1
      go_upto_region 7 with (fail)
      go_wp2_with (fail)
      refine (jload_no DR.out 1 (by decide) (HT.out.below BR.out) NO.out).mono ?_
      rintro e w5 ⟨rfl, b5⟩
      have B5 := hid b5
      clear b5
      go_upto_region 8 with (fail)
      refine wp_region_held_drew (S := fun _ => True) (by kernel_rfl) (trivial) (fun hHeld => ?_)
      try simp only [List.size_toArray, List.length_cons, List.length_nil, Nat.reduceAdd, Array.replicate_succ, Array.replicate_zero, List.push_toArray, List.nil_append, List.cons_append]
      refine wpAnyH_take (i := 0) (oi := { dst := some 20, op := Op.move (Operand.tmp 7), type := 4, pos := "journal.go:120", after := #[], guard := none }) (v := ?v3001) rfl (by kernel_rfl) (by kernel_rfl) (by kernel_rfl) (fun _ _ _ h => h) (Or.inl ⟨by rfl, ?hy3001⟩) hHeld ?_
      case hy3001 => (intro w hSw; (try dsimp only at hSw); go_simp; (try with_reducible rfl))
      (try simp only [Act.put, List.setIfInBounds_toArray, List.set_cons_zero, List.set_cons_succ])
      refine wpAnyH_take (i := 1) (oi := { dst := some 21, op := Op.move (Operand.tmp 20), type := 4, pos := "journal.go:120", after := #[{ on := 0, ground := Ground.data }], guard := none }) (v := ?v3002) rfl (by kernel_rfl) (by kernel_rfl) (by kernel_rfl) (fun _ _ _ h => h) (Or.inl ⟨by rfl, ?hy3002⟩) hHeld ?_
      case hy3002 => (intro w hSw; (try dsimp only at hSw); go_simp; (try with_reducible rfl))
      (try simp only [Act.put, List.setIfInBounds_toArray, List.set_cons_zero, List.set_cons_succ])
      refine wpAnyH_take (i := 2) (oi := { dst := some 22, op := Op.move (Operand.tmp 4), type := 26, pos := "journal.go:120", after := #[{ on := 1, ground := Ground.guard }], guard := some (1, true) }) (v := undef) rfl (by kernel_rfl) (by kernel_rfl) (by kernel_rfl) (fun _ _ _ h => h) (Or.inr ⟨by rfl, rfl⟩) hHeld ?_
      (try simp only [Act.put, List.setIfInBounds_toArray, List.set_cons_zero, List.set_cons_succ])
      refine wpAnyH_take (i := 3) (oi := { dst := some 23, op := Op.binOp BinOp.eql 26 (Operand.tmp 22) (Operand.const (Value.pointer none)) 26, type := 4, pos := "journal.go:120", after := #[{ on := 2, ground := Ground.data }, { on := 1, ground := Ground.guard }], guard := some (1, true) }) (v := undef) rfl (by kernel_rfl) (by kernel_rfl) (by kernel_rfl) (fun _ _ _ h => h) (Or.inr ⟨by rfl, rfl⟩) hHeld ?_
      (try simp only [Act.put, List.setIfInBounds_toArray, List.set_cons_zero, List.set_cons_succ])
      refine wpAnyH_take (i := 4) (oi := { dst := some 24, op := Op.move (Operand.tmp 23), type := 4, pos := "journal.go:120", after := #[{ on := 3, ground := Ground.data }, { on := 1, ground := Ground.chain }, { on := 1, ground := Ground.guard }], guard := some (1, true) }) (v := undef) rfl (by kernel_rfl) (by kernel_rfl) (by kernel_rfl) (fun _ _ _ h => h) (Or.inr ⟨by rfl, rfl⟩) hHeld ?_
      (try simp only [Act.put, List.setIfInBounds_toArray, List.set_cons_zero, List.set_cons_succ])
      refine wpAnyH_take (i := 5) (oi := { dst := some 25, op := Op.move (Operand.tmp 6), type := 26, pos := "journal.go:120", after := #[{ on := 4, ground := Ground.guard }], guard := some (4, false) }) (v := undef) rfl (by kernel_rfl) (by kernel_rfl) (by kernel_rfl) (fun _ _ _ h => h) (Or.inr ⟨by rfl, rfl⟩) hHeld ?_
      (try simp only [Act.put, List.setIfInBounds_toArray, List.set_cons_zero, List.set_cons_succ])
      refine wpAnyH_take (i := 6) (oi := { dst := some 26, op := Op.nilCheck (Operand.tmp 25), type := 0, pos := "journal.go:120", after := #[{ on := 5, ground := Ground.data }, { on := 4, ground := Ground.guard }], guard := some (4, false) }) (v := undef) rfl (by kernel_rfl) (by kernel_rfl) (by kernel_rfl) (fun _ _ _ h => h) (Or.inr ⟨by rfl, rfl⟩) hHeld ?_
      (try simp only [Act.put, List.setIfInBounds_toArray, List.set_cons_zero, List.set_cons_succ])
      refine wpAnyH_take (i := 7) (oi := { dst := some 27, op := Op.fieldAddr 64 (Operand.tmp 26) 3, type := 0, pos := "journal.go:120", after := #[{ on := 6, ground := Ground.data }, { on := 4, ground := Ground.guard }], guard := some (4, false) }) (v := undef) rfl (by kernel_rfl) (by kernel_rfl) (by kernel_rfl) (fun _ _ _ h => h) (Or.inr ⟨by rfl, rfl⟩) hHeld ?_
      (try simp only [Act.put, List.setIfInBounds_toArray, List.set_cons_zero, List.set_cons_succ])
      refine wpAnyH_take (i := 8) (oi := { dst := some 28, op := Op.load 60 (Operand.tmp 27), type := 60, pos := "journal.go:120", after := #[{ on := 7, ground := Ground.data }, { on := 4, ground := Ground.guard }], guard := some (4, false) }) (v := undef) rfl (by kernel_rfl) (by kernel_rfl) (by kernel_rfl) (fun _ _ _ h => h) (Or.inr ⟨by rfl, rfl⟩) hHeld ?_
      (try simp only [Act.put, List.setIfInBounds_toArray, List.set_cons_zero, List.set_cons_succ])
      refine wpAnyH_take (i := 9) (oi := { dst := some 29, op := Op.move (Operand.tmp 4), type := 26, pos := "journal.go:120", after := #[{ on := 4, ground := Ground.guard }], guard := some (4, false) }) (v := undef) rfl (by kernel_rfl) (by kernel_rfl) (by kernel_rfl) (fun _ _ _ h => h) (Or.inr ⟨by rfl, rfl⟩) hHeld ?_
      (try simp only [Act.put, List.setIfInBounds_toArray, List.set_cons_zero, List.set_cons_succ])
      refine wpAnyH_take (i := 10) (oi := { dst := some 30, op := Op.nilCheck (Operand.tmp 29), type := 0, pos := "journal.go:120", after := #[{ on := 9, ground := Ground.data }, { on := 4, ground := Ground.guard }], guard := some (4, false) }) (v := undef) rfl (by kernel_rfl) (by kernel_rfl) (by kernel_rfl) (fun _ _ _ h => h) (Or.inr ⟨by rfl, rfl⟩) hHeld ?_
      (try simp only [Act.put, List.setIfInBounds_toArray, List.set_cons_zero, List.set_cons_succ])
      refine wpAnyH_take (i := 11) (oi := { dst := some 31, op := Op.fieldAddr 64 (Operand.tmp 30) 3, type := 0, pos := "journal.go:120", after := #[{ on := 10, ground := Ground.data }, { on := 4, ground := Ground.guard }], guard := some (4, false) }) (v := undef) rfl (by kernel_rfl) (by kernel_rfl) (by kernel_rfl) (fun _ _ _ h => h) (Or.inr ⟨by rfl, rfl⟩) hHeld ?_
      (try simp only [Act.put, List.setIfInBounds_toArray, List.set_cons_zero, List.set_cons_succ])
      refine wpAnyH_take (i := 12) (oi := { dst := some 32, op := Op.load 60 (Operand.tmp 31), type := 60, pos := "journal.go:120", after := #[{ on := 11, ground := Ground.data }, { on := 4, ground := Ground.guard }], guard := some (4, false) }) (v := undef) rfl (by kernel_rfl) (by kernel_rfl) (by kernel_rfl) (fun _ _ _ h => h) (Or.inr ⟨by rfl, rfl⟩) hHeld ?_
      (try simp only [Act.put, List.setIfInBounds_toArray, List.set_cons_zero, List.set_cons_succ])
      refine wpAnyH_take (i := 13) (oi := { dst := some 33, op := Op.binOp BinOp.gtr 60 (Operand.tmp 28) (Operand.tmp 32) 60, type := 4, pos := "journal.go:120", after := #[{ on := 8, ground := Ground.data }, { on := 12, ground := Ground.data }, { on := 4, ground := Ground.guard }], guard := some (4, false) }) (v := undef) rfl (by kernel_rfl) (by kernel_rfl) (by kernel_rfl) (fun _ _ _ h => h) (Or.inr ⟨by rfl, rfl⟩) hHeld ?_
      (try simp only [Act.put, List.setIfInBounds_toArray, List.set_cons_zero, List.set_cons_succ])
      refine wpAnyH_take (i := 14) (oi := { dst := some 34, op := Op.pick (Operand.tmp 24) (Operand.const (Value.bool true)) (Operand.tmp 33), type := 4, pos := "journal.go:120", after := #[{ on := 4, ground := Ground.data }, { on := 13, ground := Ground.data }, { on := 1, ground := Ground.guard }], guard := some (1, true) }) (v := undef) rfl (by kernel_rfl) (by kernel_rfl) (by kernel_rfl) (fun _ _ _ h => h) (Or.inr ⟨by rfl, rfl⟩) hHeld ?_
      (try simp only [Act.put, List.setIfInBounds_toArray, List.set_cons_zero, List.set_cons_succ])
      refine wpAnyH_take (i := 15) (oi := { dst := some 35, op := Op.pick (Operand.tmp 21) (Operand.tmp 34) (Operand.const (Value.bool false)), type := 4, pos := "journal.go:120", after := #[{ on := 1, ground := Ground.data }, { on := 14, ground := Ground.data }], guard := none }) (v := ?v3003) rfl (by kernel_rfl) (by kernel_rfl) (by kernel_rfl) (fun _ _ _ h => h) (Or.inl ⟨by rfl, ?hy3003⟩) hHeld ?_
      case hy3003 => (intro w hSw; (try dsimp only at hSw); go_simp; (try with_reducible rfl))
      (try simp only [Act.put, List.setIfInBounds_toArray, List.set_cons_zero, List.set_cons_succ])
      refine wpAnyH_done (by kernel_rfl) ?_ _
      rotate_left
      go_wp2_with (fail)
      go_roundw
      case rel => exact .inr ⟨2, jb, rv, by decide, by decide, rfl, rfl, (JR.out.below B5.out).below (Below.refl _ _).drew, (BR.out.trans (B5.out.mono BR.out.size)).trans (Below.refl _ _).drew⟩
      case measure => simp [intOf]
end Go.Proofs.YtnophelfpoldfaaGreatDoor

/- What a slice of records (a number, bytes) reads as. -/
namespace Go.Proofs.YtnophelfpoldfaaGreatDoor
open Go.RowKit

/-- a record and where its bytes lie -/
structure LR where
  t : Nat
  a : Option Addr
  c : Nat
  v : List Nat
def LR.cells (l : LR) : List Value := [.int .u64 (l.t : Int), .slice l.a l.v.length l.c]
def LR.good (w : World) (l : LR) : Prop := l.t < 18446744073709551616 ∧ Sl .u8 w l.a l.v.length l.c l.v ∧ (∀ d ∈ l.v, d < 256) ∧ l.v.length ≤ 140737488351232
def LR.pr (l : LR) : Nat × List Nat := (l.t, l.v)
def Recs (w : World) (a : Option Addr) (n cap : Nat) (ls : List LR) : Prop := Rd w 2 a n cap (ls.flatMap LR.cells) ∧ ls.length = n ∧ ∀ l ∈ ls, l.good w
theorem LR.good.below {w w' : World} {l : LR} (h : l.good w) (hb : Below w.heap.size w w') : l.good w' := ⟨h.1, h.2.1.below hb, h.2.2⟩
theorem Recs.below {w w' : World} {a : Option Addr} {n cap : Nat} {ls : List LR} (h : Recs w a n cap ls) (hb : Below w.heap.size w w') : Recs w' a n cap ls :=
  ⟨h.1.below hb, h.2.1, fun l hl => (h.2.2 l hl).below hb⟩
theorem flat_get {ls : List LR} {j : Nat} {l : LR} (h : ls[j]? = some l) : (ls.flatMap LR.cells)[j * 2]? = some (.int .u64 (l.t : Int)) ∧ (ls.flatMap LR.cells)[j * 2 + 1]? = some (.slice l.a l.v.length l.c) := by
  induction ls generalizing j with
  | nil => simp at h
  | cons x r ih =>
    cases j with
    | zero =>
      simp only [List.getElem?_cons_zero, Option.some.injEq] at h
      subst h
      exact ⟨rfl, rfl⟩
    | succ j =>
      rw [List.getElem?_cons_succ] at h
      have := ih h
      rw [show (j + 1) * 2 = j * 2 + 2 by omega]
      exact this
theorem Recs.cells {w : World} {a : Option Addr} {n cap j : Nat} {ls : List LR} {l : LR} (h : Recs w a n cap ls) (hj : ls[j]? = some l) :
    ∃ b off, a = some ⟨b, off, none⟩ ∧ w.cell? ⟨b, off + j * 2, none⟩ = some (.int .u64 (l.t : Int)) ∧ w.cell? ⟨b, off + j * 2 + 1, none⟩ = some (.slice l.a l.v.length l.c) ∧ l.good w := by
  obtain ⟨⟨_, _, _, _, b, off, ha, hc⟩, hl, hg⟩ := h
  have hjl : j < ls.length := (List.getElem?_eq_some_iff.1 hj).1
  obtain ⟨f1, f2⟩ := flat_get hj
  exact ⟨b, off, ha (by omega), hc _ _ f1, by rw [Nat.add_assoc]; exact hc _ _ f2, hg l (List.mem_of_getElem? hj)⟩
theorem get_some {α : Type} {ls : List α} {j n : Nat} (hl : ls.length = n) (h : j < n) : ∃ l, ls[j]? = some l := ⟨ls[j]'(by omega), List.getElem?_eq_getElem (by omega)⟩
theorem take_succ_some {α : Type} {ls : List α} {j : Nat} {l : α} (h : ls[j]? = some l) : ls.take (j + 1) = ls.take j ++ [l] := by
  rw [List.take_add_one, h]; rfl
/-- a record in a variable of its own -/
def BxR (w : World) (b : Nat) (t : Nat) (s : Value) : Prop := w.cell? ⟨b, 0, none⟩ = some (.int .u64 (t : Int)) ∧ w.cell? ⟨b, 1, none⟩ = some s
theorem BxR.below {w w' : World} {b t : Nat} {s : Value} (h : BxR w b t s) (hb : Below w.heap.size w w') : BxR w' b t s := by
  have hlt : b < w.heap.size := World.block_lt_of_cell? w _ h.1
  exact ⟨(hb.cell (p := ⟨b, 0, none⟩) hlt).trans h.1, (hb.cell (p := ⟨b, 1, none⟩) hlt).trans h.2⟩
theorem BxR.new (w : World) (t : Nat) (s : Value) (e : TypeId) : BxR (w.alloc (.cells #[.int .u64 (t : Int), s] e)) w.heap.size t s :=
  ⟨by rw [cell_of_row _ w.heap.size _ _ e (0, 0) (heap_alloc_new w _)]; rfl, by rw [cell_of_row _ w.heap.size _ _ e (0, 0) (heap_alloc_new w _)]; rfl⟩

/-- 'append(s, x)', the block in which x lies under a name of its own -/
theorem wpList_pushAt {P : Program} {ops : Array Oper} {rest : List Oper} {o : Oper} {a : Act} {Q : Exit → Act → World → Prop} {w : World} (hgd : o.guard = none) (s x : Operand) (t : TypeId)
    (ho : o.op = .call { callee := .builtin .append, args := #[s, x], argTypes := #[t, t] })
    {e : TypeId} {size bytes : Nat} {z : Value} (ty : SliceTy P t e size bytes z) (B : Nat) {v : Value} {n : Nat} {xs : List Value} (hown : w.ownsRow B e size v n xs) (hs : a.eval s = v) (G : Nat) (hG : w.heap.size = G)
    {us : Array Value} {et : TypeId} (hx : a.eval x = .slice (some ⟨G, 0, none⟩) 1 1) (hl : us.size = size) (h1 : us.toList.all Value.oneCell' = true) (hn : n < 4294967296) (hby : bytes ≤ 16384) (hB : B ≤ w.heap.size)
    (h : ∀ v' w', w'.ownsRow B e size v' (n + 1) (xs ++ us.toList) → Below B w w' → w.heap.size < w'.heap.size → v' ≠ .slice none 0 0 → wpList P ops Q rest (a.put o.dst v') w') : wpList P ops Q (o :: rest) a (w.alloc (.cells us et)) := by
  subst hG
  exact wpList_push hgd s x t ho ty B hown hs hx hl h1 hn hby hB h
end Go.Proofs.YtnophelfpoldfaaGreatDoor

/- Slices of records as values. -/
namespace Go.Proofs.YtnophelfpoldfaaGreatDoor
open Go.RowKit

theorem infoRec : (Tryz.prog.info? 103).map (fun i => (i.zero, i.size, i.bytes)) = some (some (.agg #[.int .u64 0, .slice none 0 0]), 2, 32) := by kernel_rfl
theorem infoRec2 : (Tryz.prog.info? 77).map (fun i => (i.zero, i.size, i.bytes)) = some (some (.agg #[.int .u64 0, .slice none 0 0]), 2, 32) := by kernel_rfl
theorem tyRec : SliceTy Tryz.prog 100 103 2 32 (.agg #[.int .u64 0, .slice none 0 0]) := .mk' Tryz.underlying100 infoRec rfl (by decide)
theorem tyRec2 : SliceTy Tryz.prog 73 77 2 32 (.agg #[.int .u64 0, .slice none 0 0]) := .mk' Tryz.underlying73 infoRec2 rfl (by decide)
/-- a new slice of records: these -/
def RecsV (w : World) (v : Value) (ls : List LR) : Prop := ∃ a c, v = .slice a ls.length c ∧ Recs w a ls.length c ls
theorem recs_lit' {w : World} {us : Array Value} {e : TypeId} {n : Nat} (ls : List LR) (hn : ls.length = n) (hu : us.toList = ls.flatMap LR.cells) (hz : us.size = n * 2) (hm : n ≤ maxLen) (hg : ∀ l ∈ ls, l.good w) :
    Recs (w.alloc (.cells us e)) (some ⟨w.heap.size, 0, none⟩) n n ls := by
  obtain ⟨a', cap', he, hr⟩ := Rd.of_owns (own_new w us e (B := w.heap.size) hz (Nat.le_refl _) hm)
  simp only [Value.slice.injEq, true_and] at he
  obtain ⟨rfl, rfl⟩ := he
  rw [hu] at hr
  exact ⟨hr, hn, fun l hl => (hg l hl).below ((Below.refl _ _).alloc (Nat.le_refl _) _)⟩
end Go.Proofs.YtnophelfpoldfaaGreatDoor

/- Small facts for the store's walks. -/
namespace Go.Proofs.YtnophelfpoldfaaGreatDoor
open Go.RowKit

theorem infoCh : (Tryz.prog.info? 42).map (fun i => (i.zero, i.size, i.bytes)) = some (some (.agg #[.slice none 0 0, .slice none 0 0, .bool false]), 3, 56) := by kernel_rfl
theorem tyCh : SliceTy Tryz.prog 40 42 3 56 (.agg #[.slice none 0 0, .slice none 0 0, .bool false]) := .mk' Tryz.underlying40 infoCh rfl (by decide)
theorem nameS {w : World} {n : Nat} {x : Option Obj} (_ : w.heap[n]? = x) : ∃ k, n = k := ⟨n, rfl⟩
end Go.Proofs.YtnophelfpoldfaaGreatDoor
