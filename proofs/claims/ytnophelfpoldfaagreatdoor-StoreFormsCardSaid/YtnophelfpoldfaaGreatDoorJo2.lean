/- The journal's Open at a disk of which both halves are written: the second is the newer one. -/
import Derived.Test.YtnophelfpoldfaaGreatDoorGSts
namespace Go.Proofs.YtnophelfpoldfaaGreatDoor
open Go.RowKit

def OpenT (w : World) (db u : Nat) (st : List Nat) (rs : List (List Nat)) (p : Nat) (ck : List Nat) (e : Ending) (w' : World) : Prop :=
  ∃ jb rv, e = .returned (.tuple #[.pointer (some ⟨jb, 0, none⟩), .int .i64 0]) ∧ JourAt w' jb db w.heap.size 1 p u ck st rv rs ∧ Below w.heap.size w w'
theorem JourAt.lower {w : World} {jb db B B' half next turn : Nat} {chk st : List Nat} {rv : Value} {rs : List (List Nat)} (h : JourAt w jb db B half next turn chk st rv rs) (hB : B' ≤ B) : JourAt w jb db B' half next turn chk st rv rs := by
  obtain ⟨vs, o, r⟩ := h.row
  exact ⟨h.ex, h.c8, ⟨vs, ⟨o.1, o.2.imp id (fun ⟨g, cap, cur, e, hb, rest⟩ => ⟨g, cap, cur, e, Nat.le_trans hB hb, rest⟩)⟩, r⟩, Nat.le_trans hB h.lo⟩
/-- the records of a half: there are always some, and an end -/
theorem chain_ex (C : List (List Nat)) (half : Nat) : ∀ (k p : Nat) (ah : List Nat), C.length / 2 - p ≤ k → ∃ rs p' ck, ChainC C half p ah rs p' ck := by
  intro k
  induction k with
  | zero => intro p ah h; exact ⟨[], p, ah, readC_end (by omega), rfl, rfl⟩
  | succ k ih =>
    intro p ah h
    cases hr : readC C half p ah with
    | none => exact ⟨[], p, ah, hr, rfl, rfl⟩
    | some x =>
      obtain ⟨b, h', t⟩ := x
      have o := readC_out hr
      obtain ⟨rs, p', ck, hc⟩ := ih t h' (by omega)
      exact ⟨b :: rs, p', ck, h', t, hr, hc⟩
set_option maxRecDepth 100000 in
set_option maxHeartbeats 4000000 in
theorem jopen_two {w : World} {db Bd : Nat} {sd : Value} {C : List (List Nat)} (h : DiskAt w db Bd sd (.slice none 0 0) C []) (ht : Tabs w)
    (u0 u : Nat) (hu : u < 18446744073709551616) (hu0 : 0 < u0) (h01 : u0 < u) (st0 g0 : List Nat) (s1 : Nat) (hr0 : readC C 0 0 z32 = some (be8 u0 ++ st0, g0, s1)) (rs0 : List (List Nat)) (p0 : Nat) (ck0 : List Nat) (hch0 : ChainC C 0 s1 g0 rs0 p0 ck0)
    (st h0 : List Nat) (t1 : Nat) (hr : readC C 1 0 z32 = some (be8 u ++ st, h0, t1)) (rs : List (List Nat)) (p : Nat) (ck : List Nat) (hch : ChainC C 1 t1 h0 rs p ck) :
    Calls Tryz.prog 8 #[.pointer (some ⟨db, 0, none⟩)] w (OpenT w db u st rs p ck) := by
  have D0 := hid h
  have HT := hid ht
  have U01 := hid h01
  have LY := hid (jload_walk h 0 (by decide) ht u0 (by omega) hu0 st0 g0 s1 hr0 rs0 p0 ck0 hch0)
  have LZ := fun (wx : World) (bx : Below w.heap.size w wx) => hid (jload_walk (h.below bx) 1 (by decide) (ht.below bx) u hu (by omega) st h0 t1 hr rs p ck hch)
  clear h ht hr0 hr hch hch0 hu hu0
  go_enter Tryz.func8, Tryz.ntmps8
  go_wp2_with (fail)
  refine (ddown_walk D0.out).mono ?_
  rintro e w1 ⟨rfl, rfl⟩
  go_upto_region 5 with (fail)
  go_loopw [4, 11] (fun x4 x11 wr => (x11 = .int .i64 0 ∧ x4 = .pointer none ∧ wr = w) ∨ (∃ (jb : Nat) (rv : Value), x11 = .int .i64 1 ∧ x4 = .pointer (some ⟨jb, 0, none⟩) ∧ JourAt wr jb db w.heap.size 0 p0 u0 ck0 st0 rv rs0 ∧ Below w.heap.size w wr) ∨ ∃ (jb : Nat) (rv : Value), x11 = .int .i64 2 ∧ x4 = .pointer (some ⟨jb, 0, none⟩) ∧ JourAt wr jb db w.heap.size 1 p u ck st rv rs ∧ Below w.heap.size w wr) (fun _ x11 _ => 2 - (intOf x11).toNat)
  case atStart => exact .inl ⟨rfl, rfl, rfl⟩
  case round =>
    rcases hrel with ⟨rfl, rfl, rfl⟩ | ⟨jb, rv, rfl, rfl, hj, hb⟩ | ⟨jb, rv, rfl, rfl, hj, hb⟩
    · go_upto_region 7 with (fail)
      go_wp2_with (fail)
      refine LY.out.mono ?_
      rintro e w5 ⟨jb, rv, rfl, j5, b5⟩
      have J5 := hid j5
      have B5 := hid b5
      clear j5 b5
      go_upto_region 8 with (fail)
      refine wp_region_held_drew (S := fun _ => True) (by kernel_rfl) (trivial) (fun hHeld => ?_)
      try simp only [List.size_toArray, List.length_cons, List.length_nil, Nat.reduceAdd, Array.replicate_succ, Array.replicate_zero, List.push_toArray, List.nil_append, List.cons_append]
      refine wpAnyH_take (i := 0) (oi := { dst := some 20, op := Op.move (Operand.tmp 7), type := 4, pos := "journal.go:120", after := #[], guard := none }) (v := ?v1001) rfl (by kernel_rfl) (by kernel_rfl) (by kernel_rfl) (fun _ _ _ h => h) (Or.inl ⟨by rfl, ?hy1001⟩) hHeld ?_
      case hy1001 => (intro w hSw; (try dsimp only at hSw); go_simp; (try with_reducible rfl))
      (try simp only [Act.put, List.setIfInBounds_toArray, List.set_cons_zero, List.set_cons_succ])
      refine wpAnyH_take (i := 1) (oi := { dst := some 21, op := Op.move (Operand.tmp 20), type := 4, pos := "journal.go:120", after := #[{ on := 0, ground := Ground.data }], guard := none }) (v := ?v1002) rfl (by kernel_rfl) (by kernel_rfl) (by kernel_rfl) (fun _ _ _ h => h) (Or.inl ⟨by rfl, ?hy1002⟩) hHeld ?_
      case hy1002 => (intro w hSw; (try dsimp only at hSw); go_simp; (try with_reducible rfl))
      (try simp only [Act.put, List.setIfInBounds_toArray, List.set_cons_zero, List.set_cons_succ])
      refine wpAnyH_take (i := 2) (oi := { dst := some 22, op := Op.move (Operand.tmp 4), type := 26, pos := "journal.go:120", after := #[{ on := 1, ground := Ground.guard }], guard := some (1, true) }) (v := ?v1003) rfl (by kernel_rfl) (by kernel_rfl) (by kernel_rfl) (fun _ _ _ h => h) (Or.inl ⟨by rfl, ?hy1003⟩) hHeld ?_
      case hy1003 => (intro w hSw; (try dsimp only at hSw); go_simp; (try with_reducible rfl))
      (try simp only [Act.put, List.setIfInBounds_toArray, List.set_cons_zero, List.set_cons_succ])
      refine wpAnyH_take (i := 3) (oi := { dst := some 23, op := Op.binOp BinOp.eql 26 (Operand.tmp 22) (Operand.const (Value.pointer none)) 26, type := 4, pos := "journal.go:120", after := #[{ on := 2, ground := Ground.data }, { on := 1, ground := Ground.guard }], guard := some (1, true) }) (v := ?v1004) rfl (by kernel_rfl) (by kernel_rfl) (by kernel_rfl) (fun _ _ _ h => h) (Or.inl ⟨by rfl, ?hy1004⟩) hHeld ?_
      case hy1004 => (intro w hSw; (try dsimp only at hSw); go_simp; (try with_reducible rfl))
      (try simp only [Act.put, List.setIfInBounds_toArray, List.set_cons_zero, List.set_cons_succ])
      refine wpAnyH_take (i := 4) (oi := { dst := some 24, op := Op.move (Operand.tmp 23), type := 4, pos := "journal.go:120", after := #[{ on := 3, ground := Ground.data }, { on := 1, ground := Ground.chain }, { on := 1, ground := Ground.guard }], guard := some (1, true) }) (v := ?v1005) rfl (by kernel_rfl) (by kernel_rfl) (by kernel_rfl) (fun _ _ _ h => h) (Or.inl ⟨by rfl, ?hy1005⟩) hHeld ?_
      case hy1005 => (intro w hSw; (try dsimp only at hSw); go_simp; (try with_reducible rfl))
      (try simp only [Act.put, List.setIfInBounds_toArray, List.set_cons_zero, List.set_cons_succ])
      refine wpAnyH_take (i := 5) (oi := { dst := some 25, op := Op.move (Operand.tmp 6), type := 26, pos := "journal.go:120", after := #[{ on := 4, ground := Ground.guard }], guard := some (4, false) }) (v := undef) rfl (by kernel_rfl) (by kernel_rfl) (by kernel_rfl) (fun _ _ _ h => h) (Or.inr ⟨by rfl, rfl⟩) hHeld ?_
      (try simp only [Act.put, List.setIfInBounds_toArray, List.set_cons_zero, List.set_cons_succ])
      refine wpAnyH_take (i := 6) (oi := { dst := some 26, op := Op.nilCheck (Operand.tmp 25), type := 0, pos := "journal.go:120", after := #[{ on := 5, ground := Ground.data }, { on := 4, ground := Ground.guard }], guard := some (4, false) }) (v := undef) rfl (by kernel_rfl) (by kernel_rfl) (by kernel_rfl) (fun _ _ _ h => h) (Or.inr ⟨by rfl, rfl⟩) hHeld ?_
      (try simp only [Act.put, List.setIfInBounds_toArray, List.set_cons_zero, List.set_cons_succ])
      refine wpAnyH_take (i := 7) (oi := { dst := some 27, op := Op.fieldAddr 64 (Operand.tmp 26) 3, type := 0, pos := "journal.go:120", after := #[{ on := 6, ground := Ground.data }, { on := 4, ground := Ground.guard }], guard := some (4, false) }) (v := undef) rfl (by kernel_rfl) (by kernel_rfl) (by kernel_rfl) (fun _ _ _ h => h) (Or.inr ⟨by rfl, rfl⟩) hHeld ?_
      (try simp only [Act.put, List.setIfInBounds_toArray, List.set_cons_zero, List.set_cons_succ])
      refine wpAnyH_take (i := 8) (oi := { dst := some 28, op := Op.load 60 (Operand.tmp 27), type := 60, pos := "journal.go:120", after := #[{ on := 7, ground := Ground.data }, { on := 4, ground := Ground.guard }], guard := some (4, false) }) (v := undef) rfl (by kernel_rfl) (by kernel_rfl) (by kernel_rfl) (fun _ _ _ h => h) (Or.inr ⟨by rfl, rfl⟩) hHeld ?_
      (try simp only [Act.put, List.setIfInBounds_toArray, List.set_cons_zero, List.set_cons_succ])
      refine wpAnyH_take (i := 9) (oi := { dst := some 29, op := Op.move (Operand.tmp 4), type := 26, pos := "journal.go:120", after := #[{ on := 4, ground := Ground.guard }], guard := some (4, false) }) (v := undef) rfl (by kernel_rfl) (by kernel_rfl) (by kernel_rfl) (fun _ _ _ h => h) (Or.inr ⟨by rfl, rfl⟩) hHeld ?_
      (try simp only [Act.put, List.setIfInBounds_toArray, List.set_cons_zero, List.set_cons_succ])
      refine wpAnyH_take (i := 10) (oi := { dst := some 30, op := Op.nilCheck (Operand.tmp 29), type := 0, pos := "journal.go:120", after := #[{ on := 9, ground := Ground.data }, { on := 4, ground := Ground.guard }], guard := some (4, false) }) (v := undef) rfl (by kernel_rfl) (by kernel_rfl) (by kernel_rfl) (fun _ _ _ h => h) (Or.inr ⟨by rfl, rfl⟩) hHeld ?_
      (try simp only [Act.put, List.setIfInBounds_toArray, List.set_cons_zero, List.set_cons_succ])
      refine wpAnyH_take (i := 11) (oi := { dst := some 31, op := Op.fieldAddr 64 (Operand.tmp 30) 3, type := 0, pos := "journal.go:120", after := #[{ on := 10, ground := Ground.data }, { on := 4, ground := Ground.guard }], guard := some (4, false) }) (v := undef) rfl (by kernel_rfl) (by kernel_rfl) (by kernel_rfl) (fun _ _ _ h => h) (Or.inr ⟨by rfl, rfl⟩) hHeld ?_
      (try simp only [Act.put, List.setIfInBounds_toArray, List.set_cons_zero, List.set_cons_succ])
      refine wpAnyH_take (i := 12) (oi := { dst := some 32, op := Op.load 60 (Operand.tmp 31), type := 60, pos := "journal.go:120", after := #[{ on := 11, ground := Ground.data }, { on := 4, ground := Ground.guard }], guard := some (4, false) }) (v := undef) rfl (by kernel_rfl) (by kernel_rfl) (by kernel_rfl) (fun _ _ _ h => h) (Or.inr ⟨by rfl, rfl⟩) hHeld ?_
      (try simp only [Act.put, List.setIfInBounds_toArray, List.set_cons_zero, List.set_cons_succ])
      refine wpAnyH_take (i := 13) (oi := { dst := some 33, op := Op.binOp BinOp.gtr 60 (Operand.tmp 28) (Operand.tmp 32) 60, type := 4, pos := "journal.go:120", after := #[{ on := 8, ground := Ground.data }, { on := 12, ground := Ground.data }, { on := 4, ground := Ground.guard }], guard := some (4, false) }) (v := undef) rfl (by kernel_rfl) (by kernel_rfl) (by kernel_rfl) (fun _ _ _ h => h) (Or.inr ⟨by rfl, rfl⟩) hHeld ?_
      (try simp only [Act.put, List.setIfInBounds_toArray, List.set_cons_zero, List.set_cons_succ])
      refine wpAnyH_take (i := 14) (oi := { dst := some 34, op := Op.pick (Operand.tmp 24) (Operand.const (Value.bool true)) (Operand.tmp 33), type := 4, pos := "journal.go:120", after := #[{ on := 4, ground := Ground.data }, { on := 13, ground := Ground.data }, { on := 1, ground := Ground.guard }], guard := some (1, true) }) (v := ?v1006) rfl (by kernel_rfl) (by kernel_rfl) (by kernel_rfl) (fun _ _ _ h => h) (Or.inl ⟨by rfl, ?hy1006⟩) hHeld ?_
      case hy1006 => (intro w hSw; (try dsimp only at hSw); go_simp; (try with_reducible rfl))
      (try simp only [Act.put, List.setIfInBounds_toArray, List.set_cons_zero, List.set_cons_succ])
      refine wpAnyH_take (i := 15) (oi := { dst := some 35, op := Op.pick (Operand.tmp 21) (Operand.tmp 34) (Operand.const (Value.bool false)), type := 4, pos := "journal.go:120", after := #[{ on := 1, ground := Ground.data }, { on := 14, ground := Ground.data }], guard := none }) (v := ?v1007) rfl (by kernel_rfl) (by kernel_rfl) (by kernel_rfl) (fun _ _ _ h => h) (Or.inl ⟨by rfl, ?hy1007⟩) hHeld ?_
      case hy1007 => (intro w hSw; (try dsimp only at hSw); go_simp; (try with_reducible rfl))
      (try simp only [Act.put, List.setIfInBounds_toArray, List.set_cons_zero, List.set_cons_succ])
      refine wpAnyH_done (by kernel_rfl) ?_ _
      rotate_left
      go_wp2_with (fail)
      go_roundw
      case rel => exact .inr (.inl ⟨jb, rv, rfl, rfl, J5.out.below (Below.refl _ _).drew, B5.out.trans (Below.refl _ _).drew⟩)
      case measure => simp [intOf]
    · have BR := hid hb
      have JR := hid hj
      clear hb hj
      go_upto_region 7 with (fail)
      go_wp2_with (fail)
      refine (LZ _ BR.out).out.mono ?_
      rintro e w5 ⟨jb1, rv1, rfl, j5, b5⟩
      have J5 := hid j5
      have B5 := hid b5
      obtain ⟨sv1, k1, _⟩ := j5.ex
      obtain ⟨sv0, k0, _⟩ := (JR.out.below b5).ex
      have c3 := hid k1.c3
      have c3' := hid k0.c3
      have t9 : decide ((u0 : Int) < (u : Int)) = true := decide_eq_true (by have := U01.out; omega)
      have t8 : decide (u0 < u) = true := decide_eq_true U01.out
      clear j5 b5 k1 k0
      go_upto_region 8 with (fail)
      refine wp_region_held_drew (S := fun w' => w'.cell? ⟨jb1, 3, none⟩ = some (.int .u64 (u : Int)) ∧ w'.cell? ⟨jb, 3, none⟩ = some (.int .u64 (u0 : Int))) (by kernel_rfl) (⟨cell_keep (Below.refl _ _).drew c3.out, cell_keep (Below.refl _ _).drew c3'.out⟩) (fun hHeld => ?_)
      try simp only [List.size_toArray, List.length_cons, List.length_nil, Nat.reduceAdd, Array.replicate_succ, Array.replicate_zero, List.push_toArray, List.nil_append, List.cons_append]
      refine wpAnyH_take (i := 0) (oi := { dst := some 20, op := Op.move (Operand.tmp 7), type := 4, pos := "journal.go:120", after := #[], guard := none }) (v := ?v2001) rfl (by kernel_rfl) (by kernel_rfl) (by kernel_rfl) (fun _ _ _ h => h) (Or.inl ⟨by rfl, ?hy2001⟩) hHeld ?_
      case hy2001 => (intro w hSw; (try dsimp only at hSw); go_simp; (try with_reducible rfl))
      (try simp only [Act.put, List.setIfInBounds_toArray, List.set_cons_zero, List.set_cons_succ])
      refine wpAnyH_take (i := 1) (oi := { dst := some 21, op := Op.move (Operand.tmp 20), type := 4, pos := "journal.go:120", after := #[{ on := 0, ground := Ground.data }], guard := none }) (v := ?v2002) rfl (by kernel_rfl) (by kernel_rfl) (by kernel_rfl) (fun _ _ _ h => h) (Or.inl ⟨by rfl, ?hy2002⟩) hHeld ?_
      case hy2002 => (intro w hSw; (try dsimp only at hSw); go_simp; (try with_reducible rfl))
      (try simp only [Act.put, List.setIfInBounds_toArray, List.set_cons_zero, List.set_cons_succ])
      refine wpAnyH_take (i := 2) (oi := { dst := some 22, op := Op.move (Operand.tmp 4), type := 26, pos := "journal.go:120", after := #[{ on := 1, ground := Ground.guard }], guard := some (1, true) }) (v := ?v2003) rfl (by kernel_rfl) (by kernel_rfl) (by kernel_rfl) (fun _ _ _ h => h) (Or.inl ⟨by rfl, ?hy2003⟩) hHeld ?_
      case hy2003 => (intro w hSw; (try dsimp only at hSw); go_simp; (try with_reducible rfl))
      (try simp only [Act.put, List.setIfInBounds_toArray, List.set_cons_zero, List.set_cons_succ])
      refine wpAnyH_take (i := 3) (oi := { dst := some 23, op := Op.binOp BinOp.eql 26 (Operand.tmp 22) (Operand.const (Value.pointer none)) 26, type := 4, pos := "journal.go:120", after := #[{ on := 2, ground := Ground.data }, { on := 1, ground := Ground.guard }], guard := some (1, true) }) (v := ?v2004) rfl (by kernel_rfl) (by kernel_rfl) (by kernel_rfl) (fun _ _ _ h => h) (Or.inl ⟨by rfl, ?hy2004⟩) hHeld ?_
      case hy2004 => (intro w hSw; (try dsimp only at hSw); go_simp; (try with_reducible rfl))
      (try simp only [Act.put, List.setIfInBounds_toArray, List.set_cons_zero, List.set_cons_succ])
      refine wpAnyH_take (i := 4) (oi := { dst := some 24, op := Op.move (Operand.tmp 23), type := 4, pos := "journal.go:120", after := #[{ on := 3, ground := Ground.data }, { on := 1, ground := Ground.chain }, { on := 1, ground := Ground.guard }], guard := some (1, true) }) (v := ?v2005) rfl (by kernel_rfl) (by kernel_rfl) (by kernel_rfl) (fun _ _ _ h => h) (Or.inl ⟨by rfl, ?hy2005⟩) hHeld ?_
      case hy2005 => (intro w hSw; (try dsimp only at hSw); go_simp; (try with_reducible rfl))
      (try simp only [Act.put, List.setIfInBounds_toArray, List.set_cons_zero, List.set_cons_succ])
      refine wpAnyH_take (i := 5) (oi := { dst := some 25, op := Op.move (Operand.tmp 6), type := 26, pos := "journal.go:120", after := #[{ on := 4, ground := Ground.guard }], guard := some (4, false) }) (v := ?v2006) rfl (by kernel_rfl) (by kernel_rfl) (by kernel_rfl) (fun _ _ _ h => h) (Or.inl ⟨by rfl, ?hy2006⟩) hHeld ?_
      case hy2006 => (intro w hSw; (try dsimp only at hSw); go_simp; (try with_reducible rfl))
      (try simp only [Act.put, List.setIfInBounds_toArray, List.set_cons_zero, List.set_cons_succ])
      refine wpAnyH_take (i := 6) (oi := { dst := some 26, op := Op.nilCheck (Operand.tmp 25), type := 0, pos := "journal.go:120", after := #[{ on := 5, ground := Ground.data }, { on := 4, ground := Ground.guard }], guard := some (4, false) }) (v := ?v2007) rfl (by kernel_rfl) (by kernel_rfl) (by kernel_rfl) (fun _ _ _ h => h) (Or.inl ⟨by rfl, ?hy2007⟩) hHeld ?_
      case hy2007 => (intro w hSw; (try dsimp only at hSw); go_simp; (try with_reducible rfl))
      (try simp only [Act.put, List.setIfInBounds_toArray, List.set_cons_zero, List.set_cons_succ])
      refine wpAnyH_take (i := 7) (oi := { dst := some 27, op := Op.fieldAddr 64 (Operand.tmp 26) 3, type := 0, pos := "journal.go:120", after := #[{ on := 6, ground := Ground.data }, { on := 4, ground := Ground.guard }], guard := some (4, false) }) (v := ?v2008) rfl (by kernel_rfl) (by kernel_rfl) (by kernel_rfl) (fun _ _ _ h => h) (Or.inl ⟨by rfl, ?hy2008⟩) hHeld ?_
      case hy2008 => (intro w hSw; (try dsimp only at hSw); go_simp; (try with_reducible rfl))
      (try simp only [Act.put, List.setIfInBounds_toArray, List.set_cons_zero, List.set_cons_succ])
      refine wpAnyH_take (i := 8) (oi := { dst := some 28, op := Op.load 60 (Operand.tmp 27), type := 60, pos := "journal.go:120", after := #[{ on := 7, ground := Ground.data }, { on := 4, ground := Ground.guard }], guard := some (4, false) }) (v := (.int .u64 (u : Int))) rfl (by kernel_rfl) (by kernel_rfl) (by kernel_rfl) (fun _ _ _ h => h) (Or.inl ⟨by rfl, fun w h => by have c9 := h.1; go_simp⟩) hHeld ?_
      (try simp only [Act.put, List.setIfInBounds_toArray, List.set_cons_zero, List.set_cons_succ])
      refine wpAnyH_take (i := 9) (oi := { dst := some 29, op := Op.move (Operand.tmp 4), type := 26, pos := "journal.go:120", after := #[{ on := 4, ground := Ground.guard }], guard := some (4, false) }) (v := ?v2009) rfl (by kernel_rfl) (by kernel_rfl) (by kernel_rfl) (fun _ _ _ h => h) (Or.inl ⟨by rfl, ?hy2009⟩) hHeld ?_
      case hy2009 => (intro w hSw; (try dsimp only at hSw); go_simp; (try with_reducible rfl))
      (try simp only [Act.put, List.setIfInBounds_toArray, List.set_cons_zero, List.set_cons_succ])
      refine wpAnyH_take (i := 10) (oi := { dst := some 30, op := Op.nilCheck (Operand.tmp 29), type := 0, pos := "journal.go:120", after := #[{ on := 9, ground := Ground.data }, { on := 4, ground := Ground.guard }], guard := some (4, false) }) (v := ?v2010) rfl (by kernel_rfl) (by kernel_rfl) (by kernel_rfl) (fun _ _ _ h => h) (Or.inl ⟨by rfl, ?hy2010⟩) hHeld ?_
      case hy2010 => (intro w hSw; (try dsimp only at hSw); go_simp; (try with_reducible rfl))
      (try simp only [Act.put, List.setIfInBounds_toArray, List.set_cons_zero, List.set_cons_succ])
      refine wpAnyH_take (i := 11) (oi := { dst := some 31, op := Op.fieldAddr 64 (Operand.tmp 30) 3, type := 0, pos := "journal.go:120", after := #[{ on := 10, ground := Ground.data }, { on := 4, ground := Ground.guard }], guard := some (4, false) }) (v := ?v2011) rfl (by kernel_rfl) (by kernel_rfl) (by kernel_rfl) (fun _ _ _ h => h) (Or.inl ⟨by rfl, ?hy2011⟩) hHeld ?_
      case hy2011 => (intro w hSw; (try dsimp only at hSw); go_simp; (try with_reducible rfl))
      (try simp only [Act.put, List.setIfInBounds_toArray, List.set_cons_zero, List.set_cons_succ])
      refine wpAnyH_take (i := 12) (oi := { dst := some 32, op := Op.load 60 (Operand.tmp 31), type := 60, pos := "journal.go:120", after := #[{ on := 11, ground := Ground.data }, { on := 4, ground := Ground.guard }], guard := some (4, false) }) (v := (.int .u64 (u0 : Int))) rfl (by kernel_rfl) (by kernel_rfl) (by kernel_rfl) (fun _ _ _ h => h) (Or.inl ⟨by rfl, fun w h => by have c9 := h.2; go_simp⟩) hHeld ?_
      (try simp only [Act.put, List.setIfInBounds_toArray, List.set_cons_zero, List.set_cons_succ])
      refine wpAnyH_take (i := 13) (oi := { dst := some 33, op := Op.binOp BinOp.gtr 60 (Operand.tmp 28) (Operand.tmp 32) 60, type := 4, pos := "journal.go:120", after := #[{ on := 8, ground := Ground.data }, { on := 12, ground := Ground.data }, { on := 4, ground := Ground.guard }], guard := some (4, false) }) (v := (.bool true)) rfl (by kernel_rfl) (by kernel_rfl) (by kernel_rfl) (fun _ _ _ h => h) (Or.inl ⟨by rfl, fun w _ => by go_simp⟩) hHeld ?_
      (try simp only [Act.put, List.setIfInBounds_toArray, List.set_cons_zero, List.set_cons_succ])
      refine wpAnyH_take (i := 14) (oi := { dst := some 34, op := Op.pick (Operand.tmp 24) (Operand.const (Value.bool true)) (Operand.tmp 33), type := 4, pos := "journal.go:120", after := #[{ on := 4, ground := Ground.data }, { on := 13, ground := Ground.data }, { on := 1, ground := Ground.guard }], guard := some (1, true) }) (v := ?v2012) rfl (by kernel_rfl) (by kernel_rfl) (by kernel_rfl) (fun _ _ _ h => h) (Or.inl ⟨by rfl, ?hy2012⟩) hHeld ?_
      case hy2012 => (intro w hSw; (try dsimp only at hSw); go_simp; (try with_reducible rfl))
      (try simp only [Act.put, List.setIfInBounds_toArray, List.set_cons_zero, List.set_cons_succ])
      refine wpAnyH_take (i := 15) (oi := { dst := some 35, op := Op.pick (Operand.tmp 21) (Operand.tmp 34) (Operand.const (Value.bool false)), type := 4, pos := "journal.go:120", after := #[{ on := 1, ground := Ground.data }, { on := 14, ground := Ground.data }], guard := none }) (v := ?v2013) rfl (by kernel_rfl) (by kernel_rfl) (by kernel_rfl) (fun _ _ _ h => h) (Or.inl ⟨by rfl, ?hy2013⟩) hHeld ?_
      case hy2013 => (intro w hSw; (try dsimp only at hSw); go_simp; (try with_reducible rfl))
      (try simp only [Act.put, List.setIfInBounds_toArray, List.set_cons_zero, List.set_cons_succ])
      refine wpAnyH_done (by kernel_rfl) ?_ _
      rotate_left
      go_wp2_with (fail)
      go_roundw
      case rel =>
        exact .inr (.inr ⟨jb1, rv1, rfl, rfl, (J5.out.lower BR.out.size).below (Below.refl _ _).drew, (BR.out.trans (B5.out.mono BR.out.size)).trans (Below.refl _ _).drew⟩)
      case measure => simp [intOf]
    · have BR := hid hb
      have JR := hid hj
      clear hb hj
      go_wp2_with (fail)
      go_ret2
      exact ⟨jb, rv, rfl, JR.out, BR.out⟩
end Go.Proofs.YtnophelfpoldfaaGreatDoor
