/- Hand: what stands between its pieces. -/
import Derived.Test.YthccjefhlmngbaaDoorEg1
import Derived.Test.YthccjefhlmngbaaDoorPick
namespace Go.Proofs.YthccjefhlmngbaaDoor
open Go.RowKit

/-- a slot -/
def tm (T : Array Value) (k : Nat) : Value := T.getD k undef
theorem tm_all {n : Nat} {T : Array Value} (h : T.size = n) : T = ((List.range n).map (tm T)).toArray := by
  subst h
  apply Array.ext_getElem?
  intro k
  rw [show (List.map (tm T) (List.range T.size)).toArray[k]? = (List.map (tm T) (List.range T.size))[k]? from List.getElem?_toArray .., List.getElem?_map]
  by_cases hk : k < T.size
  · rw [List.getElem?_range hk, Option.map_some, Array.getElem?_eq_getElem hk]
    simp [tm, hk]
  · rw [Array.getElem?_eq_none (by omega), List.getElem?_eq_none (by simp; omega)]
    rfl
set_option maxRecDepth 1000000 in
theorem frameH {T : Array Value} (h : T.size = 177) : T = List.toArray (tm T 0 :: tm T 1 :: tm T 2 :: tm T 3 :: tm T 4 :: tm T 5 :: tm T 6 :: tm T 7 :: tm T 8 :: tm T 9 :: tm T 10 :: tm T 11 :: tm T 12 :: tm T 13 :: tm T 14 :: tm T 15 :: tm T 16 :: tm T 17 :: tm T 18 :: tm T 19 :: tm T 20 :: tm T 21 :: tm T 22 :: tm T 23 :: tm T 24 :: tm T 25 :: tm T 26 :: tm T 27 :: tm T 28 :: tm T 29 :: tm T 30 :: tm T 31 :: tm T 32 :: tm T 33 :: tm T 34 :: tm T 35 :: tm T 36 :: tm T 37 :: tm T 38 :: tm T 39 :: tm T 40 :: tm T 41 :: tm T 42 :: tm T 43 :: tm T 44 :: tm T 45 :: tm T 46 :: tm T 47 :: tm T 48 :: tm T 49 :: tm T 50 :: tm T 51 :: tm T 52 :: tm T 53 :: tm T 54 :: tm T 55 :: tm T 56 :: tm T 57 :: tm T 58 :: tm T 59 :: tm T 60 :: tm T 61 :: tm T 62 :: tm T 63 :: tm T 64 :: tm T 65 :: tm T 66 :: tm T 67 :: tm T 68 :: tm T 69 :: tm T 70 :: tm T 71 :: tm T 72 :: tm T 73 :: tm T 74 :: tm T 75 :: tm T 76 :: tm T 77 :: tm T 78 :: tm T 79 :: tm T 80 :: tm T 81 :: tm T 82 :: tm T 83 :: tm T 84 :: tm T 85 :: tm T 86 :: tm T 87 :: tm T 88 :: tm T 89 :: tm T 90 :: tm T 91 :: tm T 92 :: tm T 93 :: tm T 94 :: tm T 95 :: tm T 96 :: tm T 97 :: tm T 98 :: tm T 99 :: tm T 100 :: tm T 101 :: tm T 102 :: tm T 103 :: tm T 104 :: tm T 105 :: tm T 106 :: tm T 107 :: tm T 108 :: tm T 109 :: tm T 110 :: tm T 111 :: tm T 112 :: tm T 113 :: tm T 114 :: tm T 115 :: tm T 116 :: tm T 117 :: tm T 118 :: tm T 119 :: tm T 120 :: tm T 121 :: tm T 122 :: tm T 123 :: tm T 124 :: tm T 125 :: tm T 126 :: tm T 127 :: tm T 128 :: tm T 129 :: tm T 130 :: tm T 131 :: tm T 132 :: tm T 133 :: tm T 134 :: tm T 135 :: tm T 136 :: tm T 137 :: tm T 138 :: tm T 139 :: tm T 140 :: tm T 141 :: tm T 142 :: tm T 143 :: tm T 144 :: tm T 145 :: tm T 146 :: tm T 147 :: tm T 148 :: tm T 149 :: tm T 150 :: tm T 151 :: tm T 152 :: tm T 153 :: tm T 154 :: tm T 155 :: tm T 156 :: tm T 157 :: tm T 158 :: tm T 159 :: tm T 160 :: tm T 161 :: tm T 162 :: tm T 163 :: tm T 164 :: tm T 165 :: tm T 166 :: tm T 167 :: tm T 168 :: tm T 169 :: tm T 170 :: tm T 171 :: tm T 172 :: tm T 173 :: tm T 174 :: tm T 175 :: tm T 176 :: []) := (tm_all h).trans (by kernel_rfl)
noncomputable def hndC (n : Nat) : Code := (Tryd.f12.body.bind (findR n)).getD .skip
/-- the slots that last -/
structure HSl (eb K1 K2 K3 K4 : Nat) (h : Int) (T : Array Value) : Prop where
  size : T.size = 177
  t0 : tm T 0 = .pointer (some ⟨eb, 0, none⟩)
  t4 : tm T 4 = .int .i64 h
  t6 : tm T 6 = .pointer (some ⟨K1, 0, none⟩)
  t7 : tm T 7 = .pointer (some ⟨K2, 0, none⟩)
  t8 : tm T 8 = .pointer (some ⟨K3, 0, none⟩)
  t10 : tm T 10 = .int .i64 0
  t11 : tm T 11 = .pointer (some ⟨K4, 0, none⟩)
/-- the arguments in their variables -/
structure HVar (K1 K2 K3 K4 : Nat) (a b : Lg) (no : List Nat) (w : World) : Prop where
  r1 : w.heap[K1]? = some (.cells a.cells.toArray 42 (0, 0))
  r2 : w.heap[K2]? = some (.cells b.cells.toArray 42 (0, 0))
  r3 : w.heap[K3]? = some (.cells (nums .u8 no).toArray 27 (0, 0))
  r4 : w.heap[K4]? = some (.cells (nums .u8 hz32).toArray 27 (0, 0))
theorem HVar.below {K1 K2 K3 K4 : Nat} {a b : Lg} {no : List Nat} {w w' : World} (h : HVar K1 K2 K3 K4 a b no w) (hb : Below w.heap.size w w') : HVar K1 K2 K3 K4 a b no w' := ⟨heap_keep h.r1 hb, heap_keep h.r2 hb, heap_keep h.r3 hb, heap_keep h.r4 hb⟩
theorem HVar.keep {S : Nat → Prop} {K1 K2 K3 K4 : Nat} {a b : Lg} {no : List Nat} {w w' : World} (h : HVar K1 K2 K3 K4 a b no w) (hk : Keep S w w') (h1 : ¬ S K1) (h2 : ¬ S K2) (h3 : ¬ S K3) (h4 : ¬ S K4) : HVar K1 K2 K3 K4 a b no w' := ⟨hk.heap h.r1 h1, hk.heap h.r2 h2, hk.heap h.r3 h3, hk.heap h.r4 h4⟩
def isH (n : Int) : Bool := decide (0 ≤ n) && decide (n ≤ 1073741824)
/-- is it no pair of offers? -/
def argB (a b : Lg) : Bool := decide (a.line = b.line) || (!decide (a.o.lock = b.o.lock) || ((decide (a.o.id = hz32) == decide (b.o.id = hz32)) || (!isH a.o.til || !isH b.o.til)))
def Hand4 (eb K1 K2 K3 K4 : Nat) (h : Int) (a b : Lg) (w : World) : Exit → Act → World → Prop
  | .normal, A, w' => A.defers = [] ∧ HSl eb K1 K2 K3 K4 h A.tmps ∧ tm A.tmps 22 = .bool (argB a b) ∧ Below w.heap.size w w'
  | _, _, _ => False
set_option maxRecDepth 1000000 in
set_option maxHeartbeats 16000000 in
theorem hand4 {eb K1 K2 K3 K4 : Nat} {h : Int} {a b : Lg} {no : List Nat} {T : Array Value} {w : World} (s : HSl eb K1 K2 K3 K4 h T) (v : HVar K1 K2 K3 K4 a b no w) (ha : a.ok) (hb : b.ok) : (hndC 4).wp Tryd.prog (Hand4 eb K1 K2 K3 K4 h a b w) ⟨T, []⟩ w := by
  have e0 := s.t0
  have e4 := s.t4
  have e6 := s.t6
  have e7 := s.t7
  have e8 := s.t8
  have e10 := s.t10
  have e11 := s.t11
  rw [frameH s.size, e0, e4, e6, e7, e8, e10, e11]
  have l1 : w.cell? ⟨K1, 0, none⟩ = some (.int .i64 a.line) := a.hasLine.one (row_range v.r1)
  have l2 : w.cell? ⟨K2, 0, none⟩ = some (.int .i64 b.line) := b.hasLine.one (row_range v.r2)
  have u1 : w.cell? ⟨K1, 68, none⟩ = some (.int .i64 a.o.til) := (a.hasO.trans (Ofr.hasTil ha.o)).one (row_range v.r1)
  have u2 : w.cell? ⟨K2, 68, none⟩ = some (.int .i64 b.o.til) := (b.hasO.trans (Ofr.hasTil hb.o)).one (row_range v.r2)
  have k1 : w.rangeAt K1 36 (nums .u8 a.o.lock) := by have := (a.hasO.trans (Ofr.hasLock ha.o)).rng (row_range v.r1); exact this
  have k2 : w.rangeAt K2 36 (nums .u8 b.o.lock) := by have := (b.hasO.trans (Ofr.hasLock hb.o)).rng (row_range v.r2); exact this
  have i1 : w.rangeAt K1 3 (nums .u8 a.o.id) := by have := (a.hasO.trans a.o.hasId).rng (row_range v.r1); exact this
  have i2 : w.rangeAt K2 3 (nums .u8 b.o.id) := by have := (b.hasO.trans b.o.hasId).rng (row_range v.r2); exact this
  have z4 : w.rangeAt K4 0 (nums .u8 hz32) := row_range v.r4
  have un := Tryd.underlying27
  have hk1 := hid (show (Tryd.prog.info? 27).map (·.size) = some (nums .u8 a.o.lock).length by rw [nums_length, ha.o.ll]; exact infoH)
  have hk2 := hid (show (Tryd.prog.info? 27).map (·.size) = some (nums .u8 b.o.lock).length by rw [nums_length, hb.o.ll]; exact infoH)
  have hi1 := hid (show (Tryd.prog.info? 27).map (·.size) = some (nums .u8 a.o.id).length by rw [nums_length, ha.o.il]; exact infoH)
  have hi2 := hid (show (Tryd.prog.info? 27).map (·.size) = some (nums .u8 b.o.id).length by rw [nums_length, hb.o.il]; exact infoH)
  have hz4 := hid (show (Tryd.prog.info? 27).map (·.size) = some (nums .u8 hz32).length by kernel_rfl)
  have nq := neq_hv (xs := a.o.lock) (ys := b.o.lock) ha.o.ll hb.o.ll ha.o.lb hb.o.lb
  have ng := guard_hv a.o.lock b.o.lock
  have q1 := eql_hv (xs := a.o.id) (ys := hz32) ha.o.il hz32_ok.1 ha.o.ib hz32_ok.2
  have g1 := guard_hv a.o.id hz32
  have q2 := eql_hv (xs := b.o.id) (ys := hz32) hb.o.il hz32_ok.1 hb.o.ib hz32_ok.2
  have g2 := guard_hv b.o.id hz32
  unfold hv at nq ng q1 g1 q2 g2
  have RES : argB a b = (decide (a.line = b.line) || (!decide (a.o.lock = b.o.lock) || ((decide (a.o.id = hz32) == decide (b.o.id = hz32)) || (!isH a.o.til || !isH b.o.til)))) := rfl
  have HR := hid RES
  obtain ⟨bl, hbl⟩ : ∃ bl, decide (a.line = b.line) = bl := ⟨_, rfl⟩
  obtain ⟨bk, hbk⟩ : ∃ bk, decide (a.o.lock = b.o.lock) = bk := ⟨_, rfl⟩
  obtain ⟨b1, hb1⟩ : ∃ b1, decide (a.o.id = hz32) = b1 := ⟨_, rfl⟩
  obtain ⟨b2, hb2⟩ : ∃ b2, decide (b.o.id = hz32) = b2 := ⟨_, rfl⟩
  obtain ⟨h1, hh1⟩ : ∃ h1, isH a.o.til = h1 := ⟨_, rfl⟩
  obtain ⟨h2, hh2⟩ : ∃ h2, isH b.o.til = h2 := ⟨_, rfl⟩
  have tl : (a.line == b.line) = bl := by rw [← hbl]; rfl
  rw [hbk] at nq
  rw [hb1] at q1
  rw [hb2] at q2
  rw [hbl, hbk, hb1, hb2, hh1, hh2] at HR
  have W1 := fun wx => hid (show Calls Tryd.prog 28 #[.int .i64 a.o.til] wx fun e w' => e = .returned (.bool h1) ∧ wx = w' from hh1 ▸ isH_walk a.o.til wx)
  have W2 := fun wx => hid (show Calls Tryd.prog 28 #[.int .i64 b.o.til] wx fun e w' => e = .returned (.bool h2) ∧ wx = w' from hh2 ▸ isH_walk b.o.til wx)
  have LT := hid (show ∀ K o L, w.rangeAt K o L → w.drew.rangeAt K o L from fun _ _ _ h => h)
  clear s v ha hb RES hbl hbk hb1 hb2 hh1 hh2 e0 e4 e6 e7 e8 e10 e11
  conv => arg 2; whnf
  cases bl with
  | true =>
    refine wp_region_held_drew (S := fun w' => Below w.heap.size w w') (by kernel_rfl) ((Below.refl _ _).drew) (fun hHeld => ?_)
    try simp only [List.size_toArray, List.length_cons, List.length_nil, Nat.reduceAdd, Array.replicate_succ, Array.replicate_zero, List.push_toArray, List.nil_append, List.cons_append]
    refine wpAnyH_take (i := 0) (oi := { dst := some 23, op := Op.fieldAddr 42 (Operand.tmp 6) 0, type := 0, pos := "edge.go:72", after := #[], guard := none }) (v := ?v1001) rfl (by kernel_rfl) (by kernel_rfl) (by kernel_rfl) (fun _ _ _ h => h) (Or.inl ⟨by rfl, ?hy1001⟩) hHeld ?_
    case hy1001 => (intro w hSw; (try dsimp only at hSw); go_simp; (try with_reducible rfl))
    (try simp only [Act.put, List.setIfInBounds_toArray, List.set_cons_zero, List.set_cons_succ])
    refine wpAnyH_take (i := 1) (oi := { dst := some 24, op := Op.load 3 (Operand.tmp 23), type := 3, pos := "edge.go:72", after := #[{ on := 0, ground := Ground.data }], guard := none }) (v := (.int .i64 a.line)) rfl (by kernel_rfl) (by kernel_rfl) (by kernel_rfl) (fun _ _ _ h => h) (Or.inl ⟨by rfl, fun w h => by have c1 := cell_keep h l1; go_simp⟩) hHeld ?_
    (try simp only [Act.put, List.setIfInBounds_toArray, List.set_cons_zero, List.set_cons_succ])
    refine wpAnyH_take (i := 2) (oi := { dst := some 25, op := Op.fieldAddr 42 (Operand.tmp 7) 0, type := 0, pos := "edge.go:72", after := #[], guard := none }) (v := ?v1002) rfl (by kernel_rfl) (by kernel_rfl) (by kernel_rfl) (fun _ _ _ h => h) (Or.inl ⟨by rfl, ?hy1002⟩) hHeld ?_
    case hy1002 => (intro w hSw; (try dsimp only at hSw); go_simp; (try with_reducible rfl))
    (try simp only [Act.put, List.setIfInBounds_toArray, List.set_cons_zero, List.set_cons_succ])
    refine wpAnyH_take (i := 3) (oi := { dst := some 26, op := Op.load 3 (Operand.tmp 25), type := 3, pos := "edge.go:72", after := #[{ on := 2, ground := Ground.data }], guard := none }) (v := (.int .i64 b.line)) rfl (by kernel_rfl) (by kernel_rfl) (by kernel_rfl) (fun _ _ _ h => h) (Or.inl ⟨by rfl, fun w h => by have c1 := cell_keep h l2; go_simp⟩) hHeld ?_
    (try simp only [Act.put, List.setIfInBounds_toArray, List.set_cons_zero, List.set_cons_succ])
    refine wpAnyH_take (i := 4) (oi := { dst := some 27, op := Op.binOp BinOp.eql 3 (Operand.tmp 24) (Operand.tmp 26) 3, type := 4, pos := "edge.go:72", after := #[{ on := 1, ground := Ground.data }, { on := 3, ground := Ground.data }], guard := none }) (v := ?v1003) rfl (by kernel_rfl) (by kernel_rfl) (by kernel_rfl) (fun _ _ _ h => h) (Or.inl ⟨by rfl, ?hy1003⟩) hHeld ?_
    case hy1003 => (intro w hSw; (try dsimp only at hSw); go_simp; (try with_reducible rfl))
    (try simp only [Act.put, List.setIfInBounds_toArray, List.set_cons_zero, List.set_cons_succ])
    refine wpAnyH_take (i := 5) (oi := { dst := some 28, op := Op.move (Operand.tmp 27), type := 4, pos := "edge.go:72", after := #[{ on := 4, ground := Ground.data }], guard := none }) (v := ?v1004) rfl (by kernel_rfl) (by kernel_rfl) (by kernel_rfl) (fun _ _ _ h => h) (Or.inl ⟨by rfl, ?hy1004⟩) hHeld ?_
    case hy1004 => (intro w hSw; (try dsimp only at hSw); go_simp; (try with_reducible rfl))
    (try simp only [Act.put, List.setIfInBounds_toArray, List.set_cons_zero, List.set_cons_succ])
    refine wpAnyH_take (i := 6) (oi := { dst := some 29, op := Op.fieldAddr 42 (Operand.tmp 6) 1, type := 0, pos := "edge.go:72", after := #[{ on := 5, ground := Ground.guard }], guard := some (5, false) }) (v := undef) rfl (by kernel_rfl) (by kernel_rfl) (by kernel_rfl) (fun _ _ _ h => h) (Or.inr ⟨by rfl, rfl⟩) hHeld ?_
    (try simp only [Act.put, List.setIfInBounds_toArray, List.set_cons_zero, List.set_cons_succ])
    refine wpAnyH_take (i := 7) (oi := { dst := some 30, op := Op.fieldAddr 40 (Operand.tmp 29) 4, type := 0, pos := "edge.go:72", after := #[{ on := 6, ground := Ground.data }, { on := 5, ground := Ground.guard }], guard := some (5, false) }) (v := undef) rfl (by kernel_rfl) (by kernel_rfl) (by kernel_rfl) (fun _ _ _ h => h) (Or.inr ⟨by rfl, rfl⟩) hHeld ?_
    (try simp only [Act.put, List.setIfInBounds_toArray, List.set_cons_zero, List.set_cons_succ])
    refine wpAnyH_take (i := 8) (oi := { dst := some 31, op := Op.load 27 (Operand.tmp 30), type := 27, pos := "edge.go:72", after := #[{ on := 7, ground := Ground.data }, { on := 5, ground := Ground.guard }], guard := some (5, false) }) (v := undef) rfl (by kernel_rfl) (by kernel_rfl) (by kernel_rfl) (fun _ _ _ h => h) (Or.inr ⟨by rfl, rfl⟩) hHeld ?_
    (try simp only [Act.put, List.setIfInBounds_toArray, List.set_cons_zero, List.set_cons_succ])
    refine wpAnyH_take (i := 9) (oi := { dst := some 32, op := Op.fieldAddr 42 (Operand.tmp 7) 1, type := 0, pos := "edge.go:72", after := #[{ on := 5, ground := Ground.guard }], guard := some (5, false) }) (v := undef) rfl (by kernel_rfl) (by kernel_rfl) (by kernel_rfl) (fun _ _ _ h => h) (Or.inr ⟨by rfl, rfl⟩) hHeld ?_
    (try simp only [Act.put, List.setIfInBounds_toArray, List.set_cons_zero, List.set_cons_succ])
    refine wpAnyH_take (i := 10) (oi := { dst := some 33, op := Op.fieldAddr 40 (Operand.tmp 32) 4, type := 0, pos := "edge.go:72", after := #[{ on := 9, ground := Ground.data }, { on := 5, ground := Ground.guard }], guard := some (5, false) }) (v := undef) rfl (by kernel_rfl) (by kernel_rfl) (by kernel_rfl) (fun _ _ _ h => h) (Or.inr ⟨by rfl, rfl⟩) hHeld ?_
    (try simp only [Act.put, List.setIfInBounds_toArray, List.set_cons_zero, List.set_cons_succ])
    refine wpAnyH_take (i := 11) (oi := { dst := some 34, op := Op.load 27 (Operand.tmp 33), type := 27, pos := "edge.go:72", after := #[{ on := 10, ground := Ground.data }, { on := 5, ground := Ground.guard }], guard := some (5, false) }) (v := undef) rfl (by kernel_rfl) (by kernel_rfl) (by kernel_rfl) (fun _ _ _ h => h) (Or.inr ⟨by rfl, rfl⟩) hHeld ?_
    (try simp only [Act.put, List.setIfInBounds_toArray, List.set_cons_zero, List.set_cons_succ])
    refine wpAnyH_take (i := 12) (oi := { dst := some 35, op := Op.binOp BinOp.neq 27 (Operand.tmp 31) (Operand.tmp 34) 27, type := 4, pos := "edge.go:72", after := #[{ on := 8, ground := Ground.data }, { on := 11, ground := Ground.data }, { on := 5, ground := Ground.guard }], guard := some (5, false) }) (v := undef) rfl (by kernel_rfl) (by kernel_rfl) (by kernel_rfl) (fun _ _ _ h => h) (Or.inr ⟨by rfl, rfl⟩) hHeld ?_
    (try simp only [Act.put, List.setIfInBounds_toArray, List.set_cons_zero, List.set_cons_succ])
    refine wpAnyH_take (i := 13) (oi := { dst := some 36, op := Op.pick (Operand.tmp 28) (Operand.const (Value.bool true)) (Operand.tmp 35), type := 4, pos := "edge.go:72", after := #[{ on := 5, ground := Ground.data }, { on := 12, ground := Ground.data }], guard := none }) (v := ?v1005) rfl (by kernel_rfl) (by kernel_rfl) (by kernel_rfl) (fun _ _ _ h => h) (Or.inl ⟨by rfl, ?hy1005⟩) hHeld ?_
    case hy1005 => (intro w hSw; (try dsimp only at hSw); go_simp; (try with_reducible rfl))
    (try simp only [Act.put, List.setIfInBounds_toArray, List.set_cons_zero, List.set_cons_succ])
    refine wpAnyH_take (i := 14) (oi := { dst := some 37, op := Op.move (Operand.tmp 36), type := 4, pos := "edge.go:72", after := #[{ on := 13, ground := Ground.data }, { on := 5, ground := Ground.chain }], guard := none }) (v := ?v1006) rfl (by kernel_rfl) (by kernel_rfl) (by kernel_rfl) (fun _ _ _ h => h) (Or.inl ⟨by rfl, ?hy1006⟩) hHeld ?_
    case hy1006 => (intro w hSw; (try dsimp only at hSw); go_simp; (try with_reducible rfl))
    (try simp only [Act.put, List.setIfInBounds_toArray, List.set_cons_zero, List.set_cons_succ])
    refine wpAnyH_take (i := 15) (oi := { dst := some 38, op := Op.fieldAddr 42 (Operand.tmp 6) 1, type := 0, pos := "edge.go:72", after := #[{ on := 14, ground := Ground.guard }], guard := some (14, false) }) (v := undef) rfl (by kernel_rfl) (by kernel_rfl) (by kernel_rfl) (fun _ _ _ h => h) (Or.inr ⟨by rfl, rfl⟩) hHeld ?_
    (try simp only [Act.put, List.setIfInBounds_toArray, List.set_cons_zero, List.set_cons_succ])
    refine wpAnyH_take (i := 16) (oi := { dst := some 39, op := Op.fieldAddr 40 (Operand.tmp 38) 2, type := 0, pos := "edge.go:72", after := #[{ on := 15, ground := Ground.data }, { on := 14, ground := Ground.guard }], guard := some (14, false) }) (v := undef) rfl (by kernel_rfl) (by kernel_rfl) (by kernel_rfl) (fun _ _ _ h => h) (Or.inr ⟨by rfl, rfl⟩) hHeld ?_
    (try simp only [Act.put, List.setIfInBounds_toArray, List.set_cons_zero, List.set_cons_succ])
    refine wpAnyH_take (i := 17) (oi := { dst := some 40, op := Op.load 27 (Operand.tmp 39), type := 27, pos := "edge.go:72", after := #[{ on := 16, ground := Ground.data }, { on := 14, ground := Ground.guard }], guard := some (14, false) }) (v := undef) rfl (by kernel_rfl) (by kernel_rfl) (by kernel_rfl) (fun _ _ _ h => h) (Or.inr ⟨by rfl, rfl⟩) hHeld ?_
    (try simp only [Act.put, List.setIfInBounds_toArray, List.set_cons_zero, List.set_cons_succ])
    refine wpAnyH_take (i := 18) (oi := { dst := some 41, op := Op.load 27 (Operand.tmp 11), type := 27, pos := "edge.go:72", after := #[{ on := 14, ground := Ground.guard }], guard := some (14, false) }) (v := undef) rfl (by kernel_rfl) (by kernel_rfl) (by kernel_rfl) (fun _ _ _ h => h) (Or.inr ⟨by rfl, rfl⟩) hHeld ?_
    (try simp only [Act.put, List.setIfInBounds_toArray, List.set_cons_zero, List.set_cons_succ])
    refine wpAnyH_take (i := 19) (oi := { dst := some 42, op := Op.binOp BinOp.eql 27 (Operand.tmp 40) (Operand.tmp 41) 27, type := 4, pos := "edge.go:72", after := #[{ on := 17, ground := Ground.data }, { on := 18, ground := Ground.data }, { on := 14, ground := Ground.guard }], guard := some (14, false) }) (v := undef) rfl (by kernel_rfl) (by kernel_rfl) (by kernel_rfl) (fun _ _ _ h => h) (Or.inr ⟨by rfl, rfl⟩) hHeld ?_
    (try simp only [Act.put, List.setIfInBounds_toArray, List.set_cons_zero, List.set_cons_succ])
    refine wpAnyH_take (i := 20) (oi := { dst := some 43, op := Op.fieldAddr 42 (Operand.tmp 7) 1, type := 0, pos := "edge.go:72", after := #[{ on := 14, ground := Ground.guard }], guard := some (14, false) }) (v := undef) rfl (by kernel_rfl) (by kernel_rfl) (by kernel_rfl) (fun _ _ _ h => h) (Or.inr ⟨by rfl, rfl⟩) hHeld ?_
    (try simp only [Act.put, List.setIfInBounds_toArray, List.set_cons_zero, List.set_cons_succ])
    refine wpAnyH_take (i := 21) (oi := { dst := some 44, op := Op.fieldAddr 40 (Operand.tmp 43) 2, type := 0, pos := "edge.go:72", after := #[{ on := 20, ground := Ground.data }, { on := 14, ground := Ground.guard }], guard := some (14, false) }) (v := undef) rfl (by kernel_rfl) (by kernel_rfl) (by kernel_rfl) (fun _ _ _ h => h) (Or.inr ⟨by rfl, rfl⟩) hHeld ?_
    (try simp only [Act.put, List.setIfInBounds_toArray, List.set_cons_zero, List.set_cons_succ])
    refine wpAnyH_take (i := 22) (oi := { dst := some 45, op := Op.load 27 (Operand.tmp 44), type := 27, pos := "edge.go:72", after := #[{ on := 21, ground := Ground.data }, { on := 14, ground := Ground.guard }], guard := some (14, false) }) (v := undef) rfl (by kernel_rfl) (by kernel_rfl) (by kernel_rfl) (fun _ _ _ h => h) (Or.inr ⟨by rfl, rfl⟩) hHeld ?_
    (try simp only [Act.put, List.setIfInBounds_toArray, List.set_cons_zero, List.set_cons_succ])
    refine wpAnyH_take (i := 23) (oi := { dst := some 46, op := Op.load 27 (Operand.tmp 11), type := 27, pos := "edge.go:72", after := #[{ on := 14, ground := Ground.guard }], guard := some (14, false) }) (v := undef) rfl (by kernel_rfl) (by kernel_rfl) (by kernel_rfl) (fun _ _ _ h => h) (Or.inr ⟨by rfl, rfl⟩) hHeld ?_
    (try simp only [Act.put, List.setIfInBounds_toArray, List.set_cons_zero, List.set_cons_succ])
    refine wpAnyH_take (i := 24) (oi := { dst := some 47, op := Op.binOp BinOp.eql 27 (Operand.tmp 45) (Operand.tmp 46) 27, type := 4, pos := "edge.go:72", after := #[{ on := 22, ground := Ground.data }, { on := 23, ground := Ground.data }, { on := 14, ground := Ground.guard }], guard := some (14, false) }) (v := undef) rfl (by kernel_rfl) (by kernel_rfl) (by kernel_rfl) (fun _ _ _ h => h) (Or.inr ⟨by rfl, rfl⟩) hHeld ?_
    (try simp only [Act.put, List.setIfInBounds_toArray, List.set_cons_zero, List.set_cons_succ])
    refine wpAnyH_take (i := 25) (oi := { dst := some 48, op := Op.binOp BinOp.eql 4 (Operand.tmp 42) (Operand.tmp 47) 4, type := 4, pos := "edge.go:72", after := #[{ on := 19, ground := Ground.data }, { on := 24, ground := Ground.data }, { on := 14, ground := Ground.guard }], guard := some (14, false) }) (v := undef) rfl (by kernel_rfl) (by kernel_rfl) (by kernel_rfl) (fun _ _ _ h => h) (Or.inr ⟨by rfl, rfl⟩) hHeld ?_
    (try simp only [Act.put, List.setIfInBounds_toArray, List.set_cons_zero, List.set_cons_succ])
    refine wpAnyH_take (i := 26) (oi := { dst := some 49, op := Op.pick (Operand.tmp 37) (Operand.const (Value.bool true)) (Operand.tmp 48), type := 4, pos := "edge.go:72", after := #[{ on := 14, ground := Ground.data }, { on := 25, ground := Ground.data }], guard := none }) (v := ?v1007) rfl (by kernel_rfl) (by kernel_rfl) (by kernel_rfl) (fun _ _ _ h => h) (Or.inl ⟨by rfl, ?hy1007⟩) hHeld ?_
    case hy1007 => (intro w hSw; (try dsimp only at hSw); go_simp; (try with_reducible rfl))
    (try simp only [Act.put, List.setIfInBounds_toArray, List.set_cons_zero, List.set_cons_succ])
    refine wpAnyH_take (i := 27) (oi := { dst := some 50, op := Op.move (Operand.tmp 49), type := 4, pos := "edge.go:72", after := #[{ on := 26, ground := Ground.data }, { on := 14, ground := Ground.chain }], guard := none }) (v := ?v1008) rfl (by kernel_rfl) (by kernel_rfl) (by kernel_rfl) (fun _ _ _ h => h) (Or.inl ⟨by rfl, ?hy1008⟩) hHeld ?_
    case hy1008 => (intro w hSw; (try dsimp only at hSw); go_simp; (try with_reducible rfl))
    (try simp only [Act.put, List.setIfInBounds_toArray, List.set_cons_zero, List.set_cons_succ])
    refine wpAnyH_take (i := 28) (oi := { dst := some 51, op := Op.fieldAddr 42 (Operand.tmp 6) 1, type := 0, pos := "edge.go:72", after := #[{ on := 27, ground := Ground.guard }], guard := some (27, false) }) (v := undef) rfl (by kernel_rfl) (by kernel_rfl) (by kernel_rfl) (fun _ _ _ h => h) (Or.inr ⟨by rfl, rfl⟩) hHeld ?_
    (try simp only [Act.put, List.setIfInBounds_toArray, List.set_cons_zero, List.set_cons_succ])
    refine wpAnyH_take (i := 29) (oi := { dst := some 52, op := Op.fieldAddr 40 (Operand.tmp 51) 5, type := 0, pos := "edge.go:72", after := #[{ on := 28, ground := Ground.data }, { on := 27, ground := Ground.guard }], guard := some (27, false) }) (v := undef) rfl (by kernel_rfl) (by kernel_rfl) (by kernel_rfl) (fun _ _ _ h => h) (Or.inr ⟨by rfl, rfl⟩) hHeld ?_
    (try simp only [Act.put, List.setIfInBounds_toArray, List.set_cons_zero, List.set_cons_succ])
    refine wpAnyH_take (i := 30) (oi := { dst := some 53, op := Op.load 3 (Operand.tmp 52), type := 3, pos := "edge.go:72", after := #[{ on := 29, ground := Ground.data }, { on := 27, ground := Ground.guard }], guard := some (27, false) }) (v := undef) rfl (by kernel_rfl) (by kernel_rfl) (by kernel_rfl) (fun _ _ _ h => h) (Or.inr ⟨by rfl, rfl⟩) hHeld ?_
    (try simp only [Act.put, List.setIfInBounds_toArray, List.set_cons_zero, List.set_cons_succ])
    refine wpAnyH_take (i := 31) (oi := { dst := some 54, op := Op.call { callee := Callee.value (Operand.func 28), args := #[Operand.tmp 53], argTypes := #[3] }, type := 4, pos := "edge.go:72", after := #[{ on := 30, ground := Ground.data }, { on := 27, ground := Ground.chain }, { on := 27, ground := Ground.guard }], guard := some (27, false) }) (v := undef) rfl (by kernel_rfl) (by kernel_rfl) (by kernel_rfl) (fun _ _ _ h => h) (Or.inr ⟨by rfl, rfl⟩) hHeld ?_
    (try simp only [Act.put, List.setIfInBounds_toArray, List.set_cons_zero, List.set_cons_succ])
    refine wpAnyH_take (i := 32) (oi := { dst := some 55, op := Op.unOp UnOp.not 4 (Operand.tmp 54), type := 4, pos := "edge.go:72", after := #[{ on := 31, ground := Ground.data }, { on := 27, ground := Ground.guard }], guard := some (27, false) }) (v := undef) rfl (by kernel_rfl) (by kernel_rfl) (by kernel_rfl) (fun _ _ _ h => h) (Or.inr ⟨by rfl, rfl⟩) hHeld ?_
    (try simp only [Act.put, List.setIfInBounds_toArray, List.set_cons_zero, List.set_cons_succ])
    refine wpAnyH_take (i := 33) (oi := { dst := some 56, op := Op.pick (Operand.tmp 50) (Operand.const (Value.bool true)) (Operand.tmp 55), type := 4, pos := "edge.go:72", after := #[{ on := 27, ground := Ground.data }, { on := 32, ground := Ground.data }], guard := none }) (v := ?v1009) rfl (by kernel_rfl) (by kernel_rfl) (by kernel_rfl) (fun _ _ _ h => h) (Or.inl ⟨by rfl, ?hy1009⟩) hHeld ?_
    case hy1009 => (intro w hSw; (try dsimp only at hSw); go_simp; (try with_reducible rfl))
    (try simp only [Act.put, List.setIfInBounds_toArray, List.set_cons_zero, List.set_cons_succ])
    refine wpAnyH_take (i := 34) (oi := { dst := some 57, op := Op.move (Operand.tmp 56), type := 4, pos := "edge.go:72", after := #[{ on := 33, ground := Ground.data }, { on := 31, ground := Ground.chain }], guard := none }) (v := ?v1010) rfl (by kernel_rfl) (by kernel_rfl) (by kernel_rfl) (fun _ _ _ h => h) (Or.inl ⟨by rfl, ?hy1010⟩) hHeld ?_
    case hy1010 => (intro w hSw; (try dsimp only at hSw); go_simp; (try with_reducible rfl))
    (try simp only [Act.put, List.setIfInBounds_toArray, List.set_cons_zero, List.set_cons_succ])
    refine wpAnyH_take (i := 35) (oi := { dst := some 58, op := Op.fieldAddr 42 (Operand.tmp 7) 1, type := 0, pos := "edge.go:72", after := #[{ on := 34, ground := Ground.guard }], guard := some (34, false) }) (v := undef) rfl (by kernel_rfl) (by kernel_rfl) (by kernel_rfl) (fun _ _ _ h => h) (Or.inr ⟨by rfl, rfl⟩) hHeld ?_
    (try simp only [Act.put, List.setIfInBounds_toArray, List.set_cons_zero, List.set_cons_succ])
    refine wpAnyH_take (i := 36) (oi := { dst := some 59, op := Op.fieldAddr 40 (Operand.tmp 58) 5, type := 0, pos := "edge.go:72", after := #[{ on := 35, ground := Ground.data }, { on := 34, ground := Ground.guard }], guard := some (34, false) }) (v := undef) rfl (by kernel_rfl) (by kernel_rfl) (by kernel_rfl) (fun _ _ _ h => h) (Or.inr ⟨by rfl, rfl⟩) hHeld ?_
    (try simp only [Act.put, List.setIfInBounds_toArray, List.set_cons_zero, List.set_cons_succ])
    refine wpAnyH_take (i := 37) (oi := { dst := some 60, op := Op.load 3 (Operand.tmp 59), type := 3, pos := "edge.go:72", after := #[{ on := 36, ground := Ground.data }, { on := 34, ground := Ground.guard }], guard := some (34, false) }) (v := undef) rfl (by kernel_rfl) (by kernel_rfl) (by kernel_rfl) (fun _ _ _ h => h) (Or.inr ⟨by rfl, rfl⟩) hHeld ?_
    (try simp only [Act.put, List.setIfInBounds_toArray, List.set_cons_zero, List.set_cons_succ])
    refine wpAnyH_take (i := 38) (oi := { dst := some 61, op := Op.call { callee := Callee.value (Operand.func 28), args := #[Operand.tmp 60], argTypes := #[3] }, type := 4, pos := "edge.go:72", after := #[{ on := 37, ground := Ground.data }, { on := 34, ground := Ground.chain }, { on := 34, ground := Ground.guard }], guard := some (34, false) }) (v := undef) rfl (by kernel_rfl) (by kernel_rfl) (by kernel_rfl) (fun _ _ _ h => h) (Or.inr ⟨by rfl, rfl⟩) hHeld ?_
    (try simp only [Act.put, List.setIfInBounds_toArray, List.set_cons_zero, List.set_cons_succ])
    refine wpAnyH_take (i := 39) (oi := { dst := some 62, op := Op.unOp UnOp.not 4 (Operand.tmp 61), type := 4, pos := "edge.go:72", after := #[{ on := 38, ground := Ground.data }, { on := 34, ground := Ground.guard }], guard := some (34, false) }) (v := undef) rfl (by kernel_rfl) (by kernel_rfl) (by kernel_rfl) (fun _ _ _ h => h) (Or.inr ⟨by rfl, rfl⟩) hHeld ?_
    (try simp only [Act.put, List.setIfInBounds_toArray, List.set_cons_zero, List.set_cons_succ])
    refine wpAnyH_take (i := 40) (oi := { dst := some 63, op := Op.pick (Operand.tmp 57) (Operand.const (Value.bool true)) (Operand.tmp 62), type := 4, pos := "edge.go:72", after := #[{ on := 34, ground := Ground.data }, { on := 39, ground := Ground.data }], guard := none }) (v := ?v1011) rfl (by kernel_rfl) (by kernel_rfl) (by kernel_rfl) (fun _ _ _ h => h) (Or.inl ⟨by rfl, ?hy1011⟩) hHeld ?_
    case hy1011 => (intro w hSw; (try dsimp only at hSw); go_simp; (try with_reducible rfl))
    (try simp only [Act.put, List.setIfInBounds_toArray, List.set_cons_zero, List.set_cons_succ])
    refine wpAnyH_take (i := 41) (oi := { dst := some 22, op := Op.assign (Operand.tmp 63), type := 4, pos := "edge.go:72", after := #[{ on := 40, ground := Ground.data }, { on := 38, ground := Ground.chain }], guard := none }) (v := ?v1012) rfl (by kernel_rfl) (by kernel_rfl) (by kernel_rfl) (fun _ _ _ h => h) (Or.inl ⟨by rfl, ?hy1012⟩) hHeld ?_
    case hy1012 => (intro w hSw; (try dsimp only at hSw); go_simp; (try with_reducible rfl))
    (try simp only [Act.put, List.setIfInBounds_toArray, List.set_cons_zero, List.set_cons_succ])
    refine wpAnyH_done (by kernel_rfl) ?_ _
    rotate_left
    all_goals exact ⟨rfl, ⟨rfl, rfl, rfl, rfl, rfl, rfl, rfl, rfl⟩, by rw [HR.out]; rfl, by assumption⟩
  | false =>
  cases bk with
  | false =>
    refine wp_region_held_drew (S := fun w' => Below w.heap.size w w') (by kernel_rfl) ((Below.refl _ _).drew) (fun hHeld => ?_)
    try simp only [List.size_toArray, List.length_cons, List.length_nil, Nat.reduceAdd, Array.replicate_succ, Array.replicate_zero, List.push_toArray, List.nil_append, List.cons_append]
    refine wpAnyH_take (i := 0) (oi := { dst := some 23, op := Op.fieldAddr 42 (Operand.tmp 6) 0, type := 0, pos := "edge.go:72", after := #[], guard := none }) (v := ?v2001) rfl (by kernel_rfl) (by kernel_rfl) (by kernel_rfl) (fun _ _ _ h => h) (Or.inl ⟨by rfl, ?hy2001⟩) hHeld ?_
    case hy2001 => (intro w hSw; (try dsimp only at hSw); go_simp; (try with_reducible rfl))
    (try simp only [Act.put, List.setIfInBounds_toArray, List.set_cons_zero, List.set_cons_succ])
    refine wpAnyH_take (i := 1) (oi := { dst := some 24, op := Op.load 3 (Operand.tmp 23), type := 3, pos := "edge.go:72", after := #[{ on := 0, ground := Ground.data }], guard := none }) (v := (.int .i64 a.line)) rfl (by kernel_rfl) (by kernel_rfl) (by kernel_rfl) (fun _ _ _ h => h) (Or.inl ⟨by rfl, fun w h => by have c1 := cell_keep h l1; go_simp⟩) hHeld ?_
    (try simp only [Act.put, List.setIfInBounds_toArray, List.set_cons_zero, List.set_cons_succ])
    refine wpAnyH_take (i := 2) (oi := { dst := some 25, op := Op.fieldAddr 42 (Operand.tmp 7) 0, type := 0, pos := "edge.go:72", after := #[], guard := none }) (v := ?v2002) rfl (by kernel_rfl) (by kernel_rfl) (by kernel_rfl) (fun _ _ _ h => h) (Or.inl ⟨by rfl, ?hy2002⟩) hHeld ?_
    case hy2002 => (intro w hSw; (try dsimp only at hSw); go_simp; (try with_reducible rfl))
    (try simp only [Act.put, List.setIfInBounds_toArray, List.set_cons_zero, List.set_cons_succ])
    refine wpAnyH_take (i := 3) (oi := { dst := some 26, op := Op.load 3 (Operand.tmp 25), type := 3, pos := "edge.go:72", after := #[{ on := 2, ground := Ground.data }], guard := none }) (v := (.int .i64 b.line)) rfl (by kernel_rfl) (by kernel_rfl) (by kernel_rfl) (fun _ _ _ h => h) (Or.inl ⟨by rfl, fun w h => by have c1 := cell_keep h l2; go_simp⟩) hHeld ?_
    (try simp only [Act.put, List.setIfInBounds_toArray, List.set_cons_zero, List.set_cons_succ])
    refine wpAnyH_take (i := 4) (oi := { dst := some 27, op := Op.binOp BinOp.eql 3 (Operand.tmp 24) (Operand.tmp 26) 3, type := 4, pos := "edge.go:72", after := #[{ on := 1, ground := Ground.data }, { on := 3, ground := Ground.data }], guard := none }) (v := ?v2003) rfl (by kernel_rfl) (by kernel_rfl) (by kernel_rfl) (fun _ _ _ h => h) (Or.inl ⟨by rfl, ?hy2003⟩) hHeld ?_
    case hy2003 => (intro w hSw; (try dsimp only at hSw); go_simp; (try with_reducible rfl))
    (try simp only [Act.put, List.setIfInBounds_toArray, List.set_cons_zero, List.set_cons_succ])
    refine wpAnyH_take (i := 5) (oi := { dst := some 28, op := Op.move (Operand.tmp 27), type := 4, pos := "edge.go:72", after := #[{ on := 4, ground := Ground.data }], guard := none }) (v := ?v2004) rfl (by kernel_rfl) (by kernel_rfl) (by kernel_rfl) (fun _ _ _ h => h) (Or.inl ⟨by rfl, ?hy2004⟩) hHeld ?_
    case hy2004 => (intro w hSw; (try dsimp only at hSw); go_simp; (try with_reducible rfl))
    (try simp only [Act.put, List.setIfInBounds_toArray, List.set_cons_zero, List.set_cons_succ])
    refine wpAnyH_take (i := 6) (oi := { dst := some 29, op := Op.fieldAddr 42 (Operand.tmp 6) 1, type := 0, pos := "edge.go:72", after := #[{ on := 5, ground := Ground.guard }], guard := some (5, false) }) (v := ?v2005) rfl (by kernel_rfl) (by kernel_rfl) (by kernel_rfl) (fun _ _ _ h => h) (Or.inl ⟨by rfl, ?hy2005⟩) hHeld ?_
    case hy2005 => (intro w hSw; (try dsimp only at hSw); go_simp; (try with_reducible rfl))
    (try simp only [Act.put, List.setIfInBounds_toArray, List.set_cons_zero, List.set_cons_succ])
    refine wpAnyH_take (i := 7) (oi := { dst := some 30, op := Op.fieldAddr 40 (Operand.tmp 29) 4, type := 0, pos := "edge.go:72", after := #[{ on := 6, ground := Ground.data }, { on := 5, ground := Ground.guard }], guard := some (5, false) }) (v := ?v2006) rfl (by kernel_rfl) (by kernel_rfl) (by kernel_rfl) (fun _ _ _ h => h) (Or.inl ⟨by rfl, ?hy2006⟩) hHeld ?_
    case hy2006 => (intro w hSw; (try dsimp only at hSw); go_simp; (try with_reducible rfl))
    (try simp only [Act.put, List.setIfInBounds_toArray, List.set_cons_zero, List.set_cons_succ])
    refine' wpAnyH_take (i := 8) (oi := { dst := some 31, op := Op.load 27 (Operand.tmp 30), type := 27, pos := "edge.go:72", after := #[{ on := 7, ground := Ground.data }, { on := 5, ground := Ground.guard }], guard := some (5, false) }) (v := _) rfl (by kernel_rfl) (by kernel_rfl) (by kernel_rfl) (fun _ _ _ h => h) (yieldsIf_load_mid (by rfl) _ _ rfl K1 36 rfl (nums .u8 a.o.lock) _ (fun _ h => range_keep h k1) un rfl hk1.out) hHeld ?_
    (try simp only [Act.put, List.setIfInBounds_toArray, List.set_cons_zero, List.set_cons_succ])
    refine wpAnyH_take (i := 9) (oi := { dst := some 32, op := Op.fieldAddr 42 (Operand.tmp 7) 1, type := 0, pos := "edge.go:72", after := #[{ on := 5, ground := Ground.guard }], guard := some (5, false) }) (v := ?v2007) rfl (by kernel_rfl) (by kernel_rfl) (by kernel_rfl) (fun _ _ _ h => h) (Or.inl ⟨by rfl, ?hy2007⟩) hHeld ?_
    case hy2007 => (intro w hSw; (try dsimp only at hSw); go_simp; (try with_reducible rfl))
    (try simp only [Act.put, List.setIfInBounds_toArray, List.set_cons_zero, List.set_cons_succ])
    refine wpAnyH_take (i := 10) (oi := { dst := some 33, op := Op.fieldAddr 40 (Operand.tmp 32) 4, type := 0, pos := "edge.go:72", after := #[{ on := 9, ground := Ground.data }, { on := 5, ground := Ground.guard }], guard := some (5, false) }) (v := ?v2008) rfl (by kernel_rfl) (by kernel_rfl) (by kernel_rfl) (fun _ _ _ h => h) (Or.inl ⟨by rfl, ?hy2008⟩) hHeld ?_
    case hy2008 => (intro w hSw; (try dsimp only at hSw); go_simp; (try with_reducible rfl))
    (try simp only [Act.put, List.setIfInBounds_toArray, List.set_cons_zero, List.set_cons_succ])
    refine' wpAnyH_take (i := 11) (oi := { dst := some 34, op := Op.load 27 (Operand.tmp 33), type := 27, pos := "edge.go:72", after := #[{ on := 10, ground := Ground.data }, { on := 5, ground := Ground.guard }], guard := some (5, false) }) (v := _) rfl (by kernel_rfl) (by kernel_rfl) (by kernel_rfl) (fun _ _ _ h => h) (yieldsIf_load_mid (by rfl) _ _ rfl K2 36 rfl (nums .u8 b.o.lock) _ (fun _ h => range_keep h k2) un rfl hk2.out) hHeld ?_
    (try simp only [Act.put, List.setIfInBounds_toArray, List.set_cons_zero, List.set_cons_succ])
    refine wpAnyH_take (i := 12) (oi := { dst := some 35, op := Op.binOp BinOp.neq 27 (Operand.tmp 31) (Operand.tmp 34) 27, type := 4, pos := "edge.go:72", after := #[{ on := 8, ground := Ground.data }, { on := 11, ground := Ground.data }, { on := 5, ground := Ground.guard }], guard := some (5, false) }) (v := ?v2009) rfl (by kernel_rfl) (by kernel_rfl) (by kernel_rfl) (fun _ _ _ h => h) (Or.inl ⟨by rfl, ?hy2009⟩) hHeld ?_
    case hy2009 => (intro w hSw; (try dsimp only at hSw); go_simp; (try with_reducible rfl))
    (try simp only [Act.put, List.setIfInBounds_toArray, List.set_cons_zero, List.set_cons_succ])
    refine wpAnyH_take (i := 13) (oi := { dst := some 36, op := Op.pick (Operand.tmp 28) (Operand.const (Value.bool true)) (Operand.tmp 35), type := 4, pos := "edge.go:72", after := #[{ on := 5, ground := Ground.data }, { on := 12, ground := Ground.data }], guard := none }) (v := ?v2010) rfl (by kernel_rfl) (by kernel_rfl) (by kernel_rfl) (fun _ _ _ h => h) (Or.inl ⟨by rfl, ?hy2010⟩) hHeld ?_
    case hy2010 => (intro w hSw; (try dsimp only at hSw); go_simp; (try with_reducible rfl))
    (try simp only [Act.put, List.setIfInBounds_toArray, List.set_cons_zero, List.set_cons_succ])
    refine wpAnyH_take (i := 14) (oi := { dst := some 37, op := Op.move (Operand.tmp 36), type := 4, pos := "edge.go:72", after := #[{ on := 13, ground := Ground.data }, { on := 5, ground := Ground.chain }], guard := none }) (v := ?v2011) rfl (by kernel_rfl) (by kernel_rfl) (by kernel_rfl) (fun _ _ _ h => h) (Or.inl ⟨by rfl, ?hy2011⟩) hHeld ?_
    case hy2011 => (intro w hSw; (try dsimp only at hSw); go_simp; (try with_reducible rfl))
    (try simp only [Act.put, List.setIfInBounds_toArray, List.set_cons_zero, List.set_cons_succ])
    refine wpAnyH_take (i := 15) (oi := { dst := some 38, op := Op.fieldAddr 42 (Operand.tmp 6) 1, type := 0, pos := "edge.go:72", after := #[{ on := 14, ground := Ground.guard }], guard := some (14, false) }) (v := undef) rfl (by kernel_rfl) (by kernel_rfl) (by kernel_rfl) (fun _ _ _ h => h) (Or.inr ⟨by rfl, rfl⟩) hHeld ?_
    (try simp only [Act.put, List.setIfInBounds_toArray, List.set_cons_zero, List.set_cons_succ])
    refine wpAnyH_take (i := 16) (oi := { dst := some 39, op := Op.fieldAddr 40 (Operand.tmp 38) 2, type := 0, pos := "edge.go:72", after := #[{ on := 15, ground := Ground.data }, { on := 14, ground := Ground.guard }], guard := some (14, false) }) (v := undef) rfl (by kernel_rfl) (by kernel_rfl) (by kernel_rfl) (fun _ _ _ h => h) (Or.inr ⟨by rfl, rfl⟩) hHeld ?_
    (try simp only [Act.put, List.setIfInBounds_toArray, List.set_cons_zero, List.set_cons_succ])
    refine wpAnyH_take (i := 17) (oi := { dst := some 40, op := Op.load 27 (Operand.tmp 39), type := 27, pos := "edge.go:72", after := #[{ on := 16, ground := Ground.data }, { on := 14, ground := Ground.guard }], guard := some (14, false) }) (v := undef) rfl (by kernel_rfl) (by kernel_rfl) (by kernel_rfl) (fun _ _ _ h => h) (Or.inr ⟨by rfl, rfl⟩) hHeld ?_
    (try simp only [Act.put, List.setIfInBounds_toArray, List.set_cons_zero, List.set_cons_succ])
    refine wpAnyH_take (i := 18) (oi := { dst := some 41, op := Op.load 27 (Operand.tmp 11), type := 27, pos := "edge.go:72", after := #[{ on := 14, ground := Ground.guard }], guard := some (14, false) }) (v := undef) rfl (by kernel_rfl) (by kernel_rfl) (by kernel_rfl) (fun _ _ _ h => h) (Or.inr ⟨by rfl, rfl⟩) hHeld ?_
    (try simp only [Act.put, List.setIfInBounds_toArray, List.set_cons_zero, List.set_cons_succ])
    refine wpAnyH_take (i := 19) (oi := { dst := some 42, op := Op.binOp BinOp.eql 27 (Operand.tmp 40) (Operand.tmp 41) 27, type := 4, pos := "edge.go:72", after := #[{ on := 17, ground := Ground.data }, { on := 18, ground := Ground.data }, { on := 14, ground := Ground.guard }], guard := some (14, false) }) (v := undef) rfl (by kernel_rfl) (by kernel_rfl) (by kernel_rfl) (fun _ _ _ h => h) (Or.inr ⟨by rfl, rfl⟩) hHeld ?_
    (try simp only [Act.put, List.setIfInBounds_toArray, List.set_cons_zero, List.set_cons_succ])
    refine wpAnyH_take (i := 20) (oi := { dst := some 43, op := Op.fieldAddr 42 (Operand.tmp 7) 1, type := 0, pos := "edge.go:72", after := #[{ on := 14, ground := Ground.guard }], guard := some (14, false) }) (v := undef) rfl (by kernel_rfl) (by kernel_rfl) (by kernel_rfl) (fun _ _ _ h => h) (Or.inr ⟨by rfl, rfl⟩) hHeld ?_
    (try simp only [Act.put, List.setIfInBounds_toArray, List.set_cons_zero, List.set_cons_succ])
    refine wpAnyH_take (i := 21) (oi := { dst := some 44, op := Op.fieldAddr 40 (Operand.tmp 43) 2, type := 0, pos := "edge.go:72", after := #[{ on := 20, ground := Ground.data }, { on := 14, ground := Ground.guard }], guard := some (14, false) }) (v := undef) rfl (by kernel_rfl) (by kernel_rfl) (by kernel_rfl) (fun _ _ _ h => h) (Or.inr ⟨by rfl, rfl⟩) hHeld ?_
    (try simp only [Act.put, List.setIfInBounds_toArray, List.set_cons_zero, List.set_cons_succ])
    refine wpAnyH_take (i := 22) (oi := { dst := some 45, op := Op.load 27 (Operand.tmp 44), type := 27, pos := "edge.go:72", after := #[{ on := 21, ground := Ground.data }, { on := 14, ground := Ground.guard }], guard := some (14, false) }) (v := undef) rfl (by kernel_rfl) (by kernel_rfl) (by kernel_rfl) (fun _ _ _ h => h) (Or.inr ⟨by rfl, rfl⟩) hHeld ?_
    (try simp only [Act.put, List.setIfInBounds_toArray, List.set_cons_zero, List.set_cons_succ])
    refine wpAnyH_take (i := 23) (oi := { dst := some 46, op := Op.load 27 (Operand.tmp 11), type := 27, pos := "edge.go:72", after := #[{ on := 14, ground := Ground.guard }], guard := some (14, false) }) (v := undef) rfl (by kernel_rfl) (by kernel_rfl) (by kernel_rfl) (fun _ _ _ h => h) (Or.inr ⟨by rfl, rfl⟩) hHeld ?_
    (try simp only [Act.put, List.setIfInBounds_toArray, List.set_cons_zero, List.set_cons_succ])
    refine wpAnyH_take (i := 24) (oi := { dst := some 47, op := Op.binOp BinOp.eql 27 (Operand.tmp 45) (Operand.tmp 46) 27, type := 4, pos := "edge.go:72", after := #[{ on := 22, ground := Ground.data }, { on := 23, ground := Ground.data }, { on := 14, ground := Ground.guard }], guard := some (14, false) }) (v := undef) rfl (by kernel_rfl) (by kernel_rfl) (by kernel_rfl) (fun _ _ _ h => h) (Or.inr ⟨by rfl, rfl⟩) hHeld ?_
    (try simp only [Act.put, List.setIfInBounds_toArray, List.set_cons_zero, List.set_cons_succ])
    refine wpAnyH_take (i := 25) (oi := { dst := some 48, op := Op.binOp BinOp.eql 4 (Operand.tmp 42) (Operand.tmp 47) 4, type := 4, pos := "edge.go:72", after := #[{ on := 19, ground := Ground.data }, { on := 24, ground := Ground.data }, { on := 14, ground := Ground.guard }], guard := some (14, false) }) (v := undef) rfl (by kernel_rfl) (by kernel_rfl) (by kernel_rfl) (fun _ _ _ h => h) (Or.inr ⟨by rfl, rfl⟩) hHeld ?_
    (try simp only [Act.put, List.setIfInBounds_toArray, List.set_cons_zero, List.set_cons_succ])
    refine wpAnyH_take (i := 26) (oi := { dst := some 49, op := Op.pick (Operand.tmp 37) (Operand.const (Value.bool true)) (Operand.tmp 48), type := 4, pos := "edge.go:72", after := #[{ on := 14, ground := Ground.data }, { on := 25, ground := Ground.data }], guard := none }) (v := ?v2012) rfl (by kernel_rfl) (by kernel_rfl) (by kernel_rfl) (fun _ _ _ h => h) (Or.inl ⟨by rfl, ?hy2012⟩) hHeld ?_
    case hy2012 => (intro w hSw; (try dsimp only at hSw); go_simp; (try with_reducible rfl))
    (try simp only [Act.put, List.setIfInBounds_toArray, List.set_cons_zero, List.set_cons_succ])
    refine wpAnyH_take (i := 27) (oi := { dst := some 50, op := Op.move (Operand.tmp 49), type := 4, pos := "edge.go:72", after := #[{ on := 26, ground := Ground.data }, { on := 14, ground := Ground.chain }], guard := none }) (v := ?v2013) rfl (by kernel_rfl) (by kernel_rfl) (by kernel_rfl) (fun _ _ _ h => h) (Or.inl ⟨by rfl, ?hy2013⟩) hHeld ?_
    case hy2013 => (intro w hSw; (try dsimp only at hSw); go_simp; (try with_reducible rfl))
    (try simp only [Act.put, List.setIfInBounds_toArray, List.set_cons_zero, List.set_cons_succ])
    refine wpAnyH_take (i := 28) (oi := { dst := some 51, op := Op.fieldAddr 42 (Operand.tmp 6) 1, type := 0, pos := "edge.go:72", after := #[{ on := 27, ground := Ground.guard }], guard := some (27, false) }) (v := undef) rfl (by kernel_rfl) (by kernel_rfl) (by kernel_rfl) (fun _ _ _ h => h) (Or.inr ⟨by rfl, rfl⟩) hHeld ?_
    (try simp only [Act.put, List.setIfInBounds_toArray, List.set_cons_zero, List.set_cons_succ])
    refine wpAnyH_take (i := 29) (oi := { dst := some 52, op := Op.fieldAddr 40 (Operand.tmp 51) 5, type := 0, pos := "edge.go:72", after := #[{ on := 28, ground := Ground.data }, { on := 27, ground := Ground.guard }], guard := some (27, false) }) (v := undef) rfl (by kernel_rfl) (by kernel_rfl) (by kernel_rfl) (fun _ _ _ h => h) (Or.inr ⟨by rfl, rfl⟩) hHeld ?_
    (try simp only [Act.put, List.setIfInBounds_toArray, List.set_cons_zero, List.set_cons_succ])
    refine wpAnyH_take (i := 30) (oi := { dst := some 53, op := Op.load 3 (Operand.tmp 52), type := 3, pos := "edge.go:72", after := #[{ on := 29, ground := Ground.data }, { on := 27, ground := Ground.guard }], guard := some (27, false) }) (v := undef) rfl (by kernel_rfl) (by kernel_rfl) (by kernel_rfl) (fun _ _ _ h => h) (Or.inr ⟨by rfl, rfl⟩) hHeld ?_
    (try simp only [Act.put, List.setIfInBounds_toArray, List.set_cons_zero, List.set_cons_succ])
    refine wpAnyH_take (i := 31) (oi := { dst := some 54, op := Op.call { callee := Callee.value (Operand.func 28), args := #[Operand.tmp 53], argTypes := #[3] }, type := 4, pos := "edge.go:72", after := #[{ on := 30, ground := Ground.data }, { on := 27, ground := Ground.chain }, { on := 27, ground := Ground.guard }], guard := some (27, false) }) (v := undef) rfl (by kernel_rfl) (by kernel_rfl) (by kernel_rfl) (fun _ _ _ h => h) (Or.inr ⟨by rfl, rfl⟩) hHeld ?_
    (try simp only [Act.put, List.setIfInBounds_toArray, List.set_cons_zero, List.set_cons_succ])
    refine wpAnyH_take (i := 32) (oi := { dst := some 55, op := Op.unOp UnOp.not 4 (Operand.tmp 54), type := 4, pos := "edge.go:72", after := #[{ on := 31, ground := Ground.data }, { on := 27, ground := Ground.guard }], guard := some (27, false) }) (v := undef) rfl (by kernel_rfl) (by kernel_rfl) (by kernel_rfl) (fun _ _ _ h => h) (Or.inr ⟨by rfl, rfl⟩) hHeld ?_
    (try simp only [Act.put, List.setIfInBounds_toArray, List.set_cons_zero, List.set_cons_succ])
    refine wpAnyH_take (i := 33) (oi := { dst := some 56, op := Op.pick (Operand.tmp 50) (Operand.const (Value.bool true)) (Operand.tmp 55), type := 4, pos := "edge.go:72", after := #[{ on := 27, ground := Ground.data }, { on := 32, ground := Ground.data }], guard := none }) (v := ?v2014) rfl (by kernel_rfl) (by kernel_rfl) (by kernel_rfl) (fun _ _ _ h => h) (Or.inl ⟨by rfl, ?hy2014⟩) hHeld ?_
    case hy2014 => (intro w hSw; (try dsimp only at hSw); go_simp; (try with_reducible rfl))
    (try simp only [Act.put, List.setIfInBounds_toArray, List.set_cons_zero, List.set_cons_succ])
    refine wpAnyH_take (i := 34) (oi := { dst := some 57, op := Op.move (Operand.tmp 56), type := 4, pos := "edge.go:72", after := #[{ on := 33, ground := Ground.data }, { on := 31, ground := Ground.chain }], guard := none }) (v := ?v2015) rfl (by kernel_rfl) (by kernel_rfl) (by kernel_rfl) (fun _ _ _ h => h) (Or.inl ⟨by rfl, ?hy2015⟩) hHeld ?_
    case hy2015 => (intro w hSw; (try dsimp only at hSw); go_simp; (try with_reducible rfl))
    (try simp only [Act.put, List.setIfInBounds_toArray, List.set_cons_zero, List.set_cons_succ])
    refine wpAnyH_take (i := 35) (oi := { dst := some 58, op := Op.fieldAddr 42 (Operand.tmp 7) 1, type := 0, pos := "edge.go:72", after := #[{ on := 34, ground := Ground.guard }], guard := some (34, false) }) (v := undef) rfl (by kernel_rfl) (by kernel_rfl) (by kernel_rfl) (fun _ _ _ h => h) (Or.inr ⟨by rfl, rfl⟩) hHeld ?_
    (try simp only [Act.put, List.setIfInBounds_toArray, List.set_cons_zero, List.set_cons_succ])
    refine wpAnyH_take (i := 36) (oi := { dst := some 59, op := Op.fieldAddr 40 (Operand.tmp 58) 5, type := 0, pos := "edge.go:72", after := #[{ on := 35, ground := Ground.data }, { on := 34, ground := Ground.guard }], guard := some (34, false) }) (v := undef) rfl (by kernel_rfl) (by kernel_rfl) (by kernel_rfl) (fun _ _ _ h => h) (Or.inr ⟨by rfl, rfl⟩) hHeld ?_
    (try simp only [Act.put, List.setIfInBounds_toArray, List.set_cons_zero, List.set_cons_succ])
    refine wpAnyH_take (i := 37) (oi := { dst := some 60, op := Op.load 3 (Operand.tmp 59), type := 3, pos := "edge.go:72", after := #[{ on := 36, ground := Ground.data }, { on := 34, ground := Ground.guard }], guard := some (34, false) }) (v := undef) rfl (by kernel_rfl) (by kernel_rfl) (by kernel_rfl) (fun _ _ _ h => h) (Or.inr ⟨by rfl, rfl⟩) hHeld ?_
    (try simp only [Act.put, List.setIfInBounds_toArray, List.set_cons_zero, List.set_cons_succ])
    refine wpAnyH_take (i := 38) (oi := { dst := some 61, op := Op.call { callee := Callee.value (Operand.func 28), args := #[Operand.tmp 60], argTypes := #[3] }, type := 4, pos := "edge.go:72", after := #[{ on := 37, ground := Ground.data }, { on := 34, ground := Ground.chain }, { on := 34, ground := Ground.guard }], guard := some (34, false) }) (v := undef) rfl (by kernel_rfl) (by kernel_rfl) (by kernel_rfl) (fun _ _ _ h => h) (Or.inr ⟨by rfl, rfl⟩) hHeld ?_
    (try simp only [Act.put, List.setIfInBounds_toArray, List.set_cons_zero, List.set_cons_succ])
    refine wpAnyH_take (i := 39) (oi := { dst := some 62, op := Op.unOp UnOp.not 4 (Operand.tmp 61), type := 4, pos := "edge.go:72", after := #[{ on := 38, ground := Ground.data }, { on := 34, ground := Ground.guard }], guard := some (34, false) }) (v := undef) rfl (by kernel_rfl) (by kernel_rfl) (by kernel_rfl) (fun _ _ _ h => h) (Or.inr ⟨by rfl, rfl⟩) hHeld ?_
    (try simp only [Act.put, List.setIfInBounds_toArray, List.set_cons_zero, List.set_cons_succ])
    refine wpAnyH_take (i := 40) (oi := { dst := some 63, op := Op.pick (Operand.tmp 57) (Operand.const (Value.bool true)) (Operand.tmp 62), type := 4, pos := "edge.go:72", after := #[{ on := 34, ground := Ground.data }, { on := 39, ground := Ground.data }], guard := none }) (v := ?v2016) rfl (by kernel_rfl) (by kernel_rfl) (by kernel_rfl) (fun _ _ _ h => h) (Or.inl ⟨by rfl, ?hy2016⟩) hHeld ?_
    case hy2016 => (intro w hSw; (try dsimp only at hSw); go_simp; (try with_reducible rfl))
    (try simp only [Act.put, List.setIfInBounds_toArray, List.set_cons_zero, List.set_cons_succ])
    refine wpAnyH_take (i := 41) (oi := { dst := some 22, op := Op.assign (Operand.tmp 63), type := 4, pos := "edge.go:72", after := #[{ on := 40, ground := Ground.data }, { on := 38, ground := Ground.chain }], guard := none }) (v := ?v2017) rfl (by kernel_rfl) (by kernel_rfl) (by kernel_rfl) (fun _ _ _ h => h) (Or.inl ⟨by rfl, ?hy2017⟩) hHeld ?_
    case hy2017 => (intro w hSw; (try dsimp only at hSw); go_simp; (try with_reducible rfl))
    (try simp only [Act.put, List.setIfInBounds_toArray, List.set_cons_zero, List.set_cons_succ])
    refine wpAnyH_done (by kernel_rfl) ?_ _
    rotate_left
    all_goals exact ⟨rfl, ⟨rfl, rfl, rfl, rfl, rfl, rfl, rfl, rfl⟩, by rw [HR.out]; rfl, by assumption⟩
  | true =>
  obtain ⟨be, hbe⟩ : ∃ be, (b1 == b2) = be := ⟨_, rfl⟩
  rw [hbe] at HR
  cases be with
  | true =>
    refine wp_region_held_drew (S := fun w' => Below w.heap.size w w') (by kernel_rfl) ((Below.refl _ _).drew) (fun hHeld => ?_)
    try simp only [List.size_toArray, List.length_cons, List.length_nil, Nat.reduceAdd, Array.replicate_succ, Array.replicate_zero, List.push_toArray, List.nil_append, List.cons_append]
    refine wpAnyH_take (i := 0) (oi := { dst := some 23, op := Op.fieldAddr 42 (Operand.tmp 6) 0, type := 0, pos := "edge.go:72", after := #[], guard := none }) (v := ?v3001) rfl (by kernel_rfl) (by kernel_rfl) (by kernel_rfl) (fun _ _ _ h => h) (Or.inl ⟨by rfl, ?hy3001⟩) hHeld ?_
    case hy3001 => (intro w hSw; (try dsimp only at hSw); go_simp; (try with_reducible rfl))
    (try simp only [Act.put, List.setIfInBounds_toArray, List.set_cons_zero, List.set_cons_succ])
    refine wpAnyH_take (i := 1) (oi := { dst := some 24, op := Op.load 3 (Operand.tmp 23), type := 3, pos := "edge.go:72", after := #[{ on := 0, ground := Ground.data }], guard := none }) (v := (.int .i64 a.line)) rfl (by kernel_rfl) (by kernel_rfl) (by kernel_rfl) (fun _ _ _ h => h) (Or.inl ⟨by rfl, fun w h => by have c1 := cell_keep h l1; go_simp⟩) hHeld ?_
    (try simp only [Act.put, List.setIfInBounds_toArray, List.set_cons_zero, List.set_cons_succ])
    refine wpAnyH_take (i := 2) (oi := { dst := some 25, op := Op.fieldAddr 42 (Operand.tmp 7) 0, type := 0, pos := "edge.go:72", after := #[], guard := none }) (v := ?v3002) rfl (by kernel_rfl) (by kernel_rfl) (by kernel_rfl) (fun _ _ _ h => h) (Or.inl ⟨by rfl, ?hy3002⟩) hHeld ?_
    case hy3002 => (intro w hSw; (try dsimp only at hSw); go_simp; (try with_reducible rfl))
    (try simp only [Act.put, List.setIfInBounds_toArray, List.set_cons_zero, List.set_cons_succ])
    refine wpAnyH_take (i := 3) (oi := { dst := some 26, op := Op.load 3 (Operand.tmp 25), type := 3, pos := "edge.go:72", after := #[{ on := 2, ground := Ground.data }], guard := none }) (v := (.int .i64 b.line)) rfl (by kernel_rfl) (by kernel_rfl) (by kernel_rfl) (fun _ _ _ h => h) (Or.inl ⟨by rfl, fun w h => by have c1 := cell_keep h l2; go_simp⟩) hHeld ?_
    (try simp only [Act.put, List.setIfInBounds_toArray, List.set_cons_zero, List.set_cons_succ])
    refine wpAnyH_take (i := 4) (oi := { dst := some 27, op := Op.binOp BinOp.eql 3 (Operand.tmp 24) (Operand.tmp 26) 3, type := 4, pos := "edge.go:72", after := #[{ on := 1, ground := Ground.data }, { on := 3, ground := Ground.data }], guard := none }) (v := ?v3003) rfl (by kernel_rfl) (by kernel_rfl) (by kernel_rfl) (fun _ _ _ h => h) (Or.inl ⟨by rfl, ?hy3003⟩) hHeld ?_
    case hy3003 => (intro w hSw; (try dsimp only at hSw); go_simp; (try with_reducible rfl))
    (try simp only [Act.put, List.setIfInBounds_toArray, List.set_cons_zero, List.set_cons_succ])
    refine wpAnyH_take (i := 5) (oi := { dst := some 28, op := Op.move (Operand.tmp 27), type := 4, pos := "edge.go:72", after := #[{ on := 4, ground := Ground.data }], guard := none }) (v := ?v3004) rfl (by kernel_rfl) (by kernel_rfl) (by kernel_rfl) (fun _ _ _ h => h) (Or.inl ⟨by rfl, ?hy3004⟩) hHeld ?_
    case hy3004 => (intro w hSw; (try dsimp only at hSw); go_simp; (try with_reducible rfl))
    (try simp only [Act.put, List.setIfInBounds_toArray, List.set_cons_zero, List.set_cons_succ])
    refine wpAnyH_take (i := 6) (oi := { dst := some 29, op := Op.fieldAddr 42 (Operand.tmp 6) 1, type := 0, pos := "edge.go:72", after := #[{ on := 5, ground := Ground.guard }], guard := some (5, false) }) (v := ?v3005) rfl (by kernel_rfl) (by kernel_rfl) (by kernel_rfl) (fun _ _ _ h => h) (Or.inl ⟨by rfl, ?hy3005⟩) hHeld ?_
    case hy3005 => (intro w hSw; (try dsimp only at hSw); go_simp; (try with_reducible rfl))
    (try simp only [Act.put, List.setIfInBounds_toArray, List.set_cons_zero, List.set_cons_succ])
    refine wpAnyH_take (i := 7) (oi := { dst := some 30, op := Op.fieldAddr 40 (Operand.tmp 29) 4, type := 0, pos := "edge.go:72", after := #[{ on := 6, ground := Ground.data }, { on := 5, ground := Ground.guard }], guard := some (5, false) }) (v := ?v3006) rfl (by kernel_rfl) (by kernel_rfl) (by kernel_rfl) (fun _ _ _ h => h) (Or.inl ⟨by rfl, ?hy3006⟩) hHeld ?_
    case hy3006 => (intro w hSw; (try dsimp only at hSw); go_simp; (try with_reducible rfl))
    (try simp only [Act.put, List.setIfInBounds_toArray, List.set_cons_zero, List.set_cons_succ])
    refine' wpAnyH_take (i := 8) (oi := { dst := some 31, op := Op.load 27 (Operand.tmp 30), type := 27, pos := "edge.go:72", after := #[{ on := 7, ground := Ground.data }, { on := 5, ground := Ground.guard }], guard := some (5, false) }) (v := _) rfl (by kernel_rfl) (by kernel_rfl) (by kernel_rfl) (fun _ _ _ h => h) (yieldsIf_load_mid (by rfl) _ _ rfl K1 36 rfl (nums .u8 a.o.lock) _ (fun _ h => range_keep h k1) un rfl hk1.out) hHeld ?_
    (try simp only [Act.put, List.setIfInBounds_toArray, List.set_cons_zero, List.set_cons_succ])
    refine wpAnyH_take (i := 9) (oi := { dst := some 32, op := Op.fieldAddr 42 (Operand.tmp 7) 1, type := 0, pos := "edge.go:72", after := #[{ on := 5, ground := Ground.guard }], guard := some (5, false) }) (v := ?v3007) rfl (by kernel_rfl) (by kernel_rfl) (by kernel_rfl) (fun _ _ _ h => h) (Or.inl ⟨by rfl, ?hy3007⟩) hHeld ?_
    case hy3007 => (intro w hSw; (try dsimp only at hSw); go_simp; (try with_reducible rfl))
    (try simp only [Act.put, List.setIfInBounds_toArray, List.set_cons_zero, List.set_cons_succ])
    refine wpAnyH_take (i := 10) (oi := { dst := some 33, op := Op.fieldAddr 40 (Operand.tmp 32) 4, type := 0, pos := "edge.go:72", after := #[{ on := 9, ground := Ground.data }, { on := 5, ground := Ground.guard }], guard := some (5, false) }) (v := ?v3008) rfl (by kernel_rfl) (by kernel_rfl) (by kernel_rfl) (fun _ _ _ h => h) (Or.inl ⟨by rfl, ?hy3008⟩) hHeld ?_
    case hy3008 => (intro w hSw; (try dsimp only at hSw); go_simp; (try with_reducible rfl))
    (try simp only [Act.put, List.setIfInBounds_toArray, List.set_cons_zero, List.set_cons_succ])
    refine' wpAnyH_take (i := 11) (oi := { dst := some 34, op := Op.load 27 (Operand.tmp 33), type := 27, pos := "edge.go:72", after := #[{ on := 10, ground := Ground.data }, { on := 5, ground := Ground.guard }], guard := some (5, false) }) (v := _) rfl (by kernel_rfl) (by kernel_rfl) (by kernel_rfl) (fun _ _ _ h => h) (yieldsIf_load_mid (by rfl) _ _ rfl K2 36 rfl (nums .u8 b.o.lock) _ (fun _ h => range_keep h k2) un rfl hk2.out) hHeld ?_
    (try simp only [Act.put, List.setIfInBounds_toArray, List.set_cons_zero, List.set_cons_succ])
    refine wpAnyH_take (i := 12) (oi := { dst := some 35, op := Op.binOp BinOp.neq 27 (Operand.tmp 31) (Operand.tmp 34) 27, type := 4, pos := "edge.go:72", after := #[{ on := 8, ground := Ground.data }, { on := 11, ground := Ground.data }, { on := 5, ground := Ground.guard }], guard := some (5, false) }) (v := ?v3009) rfl (by kernel_rfl) (by kernel_rfl) (by kernel_rfl) (fun _ _ _ h => h) (Or.inl ⟨by rfl, ?hy3009⟩) hHeld ?_
    case hy3009 => (intro w hSw; (try dsimp only at hSw); go_simp; (try with_reducible rfl))
    (try simp only [Act.put, List.setIfInBounds_toArray, List.set_cons_zero, List.set_cons_succ])
    refine wpAnyH_take (i := 13) (oi := { dst := some 36, op := Op.pick (Operand.tmp 28) (Operand.const (Value.bool true)) (Operand.tmp 35), type := 4, pos := "edge.go:72", after := #[{ on := 5, ground := Ground.data }, { on := 12, ground := Ground.data }], guard := none }) (v := ?v3010) rfl (by kernel_rfl) (by kernel_rfl) (by kernel_rfl) (fun _ _ _ h => h) (Or.inl ⟨by rfl, ?hy3010⟩) hHeld ?_
    case hy3010 => (intro w hSw; (try dsimp only at hSw); go_simp; (try with_reducible rfl))
    (try simp only [Act.put, List.setIfInBounds_toArray, List.set_cons_zero, List.set_cons_succ])
    refine wpAnyH_take (i := 14) (oi := { dst := some 37, op := Op.move (Operand.tmp 36), type := 4, pos := "edge.go:72", after := #[{ on := 13, ground := Ground.data }, { on := 5, ground := Ground.chain }], guard := none }) (v := ?v3011) rfl (by kernel_rfl) (by kernel_rfl) (by kernel_rfl) (fun _ _ _ h => h) (Or.inl ⟨by rfl, ?hy3011⟩) hHeld ?_
    case hy3011 => (intro w hSw; (try dsimp only at hSw); go_simp; (try with_reducible rfl))
    (try simp only [Act.put, List.setIfInBounds_toArray, List.set_cons_zero, List.set_cons_succ])
    refine wpAnyH_take (i := 15) (oi := { dst := some 38, op := Op.fieldAddr 42 (Operand.tmp 6) 1, type := 0, pos := "edge.go:72", after := #[{ on := 14, ground := Ground.guard }], guard := some (14, false) }) (v := ?v3012) rfl (by kernel_rfl) (by kernel_rfl) (by kernel_rfl) (fun _ _ _ h => h) (Or.inl ⟨by rfl, ?hy3012⟩) hHeld ?_
    case hy3012 => (intro w hSw; (try dsimp only at hSw); go_simp; (try with_reducible rfl))
    (try simp only [Act.put, List.setIfInBounds_toArray, List.set_cons_zero, List.set_cons_succ])
    refine wpAnyH_take (i := 16) (oi := { dst := some 39, op := Op.fieldAddr 40 (Operand.tmp 38) 2, type := 0, pos := "edge.go:72", after := #[{ on := 15, ground := Ground.data }, { on := 14, ground := Ground.guard }], guard := some (14, false) }) (v := ?v3013) rfl (by kernel_rfl) (by kernel_rfl) (by kernel_rfl) (fun _ _ _ h => h) (Or.inl ⟨by rfl, ?hy3013⟩) hHeld ?_
    case hy3013 => (intro w hSw; (try dsimp only at hSw); go_simp; (try with_reducible rfl))
    (try simp only [Act.put, List.setIfInBounds_toArray, List.set_cons_zero, List.set_cons_succ])
    refine' wpAnyH_take (i := 17) (oi := { dst := some 40, op := Op.load 27 (Operand.tmp 39), type := 27, pos := "edge.go:72", after := #[{ on := 16, ground := Ground.data }, { on := 14, ground := Ground.guard }], guard := some (14, false) }) (v := _) rfl (by kernel_rfl) (by kernel_rfl) (by kernel_rfl) (fun _ _ _ h => h) (yieldsIf_load_mid (by rfl) _ _ rfl K1 3 rfl (nums .u8 a.o.id) _ (fun _ h => range_keep h i1) un rfl hi1.out) hHeld ?_
    (try simp only [Act.put, List.setIfInBounds_toArray, List.set_cons_zero, List.set_cons_succ])
    refine' wpAnyH_take (i := 18) (oi := { dst := some 41, op := Op.load 27 (Operand.tmp 11), type := 27, pos := "edge.go:72", after := #[{ on := 14, ground := Ground.guard }], guard := some (14, false) }) (v := _) rfl (by kernel_rfl) (by kernel_rfl) (by kernel_rfl) (fun _ _ _ h => h) (yieldsIf_load_mid (by rfl) _ _ rfl K4 0 rfl (nums .u8 hz32) _ (fun _ h => range_keep h z4) un rfl hz4.out) hHeld ?_
    (try simp only [Act.put, List.setIfInBounds_toArray, List.set_cons_zero, List.set_cons_succ])
    refine wpAnyH_take (i := 19) (oi := { dst := some 42, op := Op.binOp BinOp.eql 27 (Operand.tmp 40) (Operand.tmp 41) 27, type := 4, pos := "edge.go:72", after := #[{ on := 17, ground := Ground.data }, { on := 18, ground := Ground.data }, { on := 14, ground := Ground.guard }], guard := some (14, false) }) (v := ?v3014) rfl (by kernel_rfl) (by kernel_rfl) (by kernel_rfl) (fun _ _ _ h => h) (Or.inl ⟨by rfl, ?hy3014⟩) hHeld ?_
    case hy3014 => (intro w hSw; (try dsimp only at hSw); go_simp; (try with_reducible rfl))
    (try simp only [Act.put, List.setIfInBounds_toArray, List.set_cons_zero, List.set_cons_succ])
    refine wpAnyH_take (i := 20) (oi := { dst := some 43, op := Op.fieldAddr 42 (Operand.tmp 7) 1, type := 0, pos := "edge.go:72", after := #[{ on := 14, ground := Ground.guard }], guard := some (14, false) }) (v := ?v3015) rfl (by kernel_rfl) (by kernel_rfl) (by kernel_rfl) (fun _ _ _ h => h) (Or.inl ⟨by rfl, ?hy3015⟩) hHeld ?_
    case hy3015 => (intro w hSw; (try dsimp only at hSw); go_simp; (try with_reducible rfl))
    (try simp only [Act.put, List.setIfInBounds_toArray, List.set_cons_zero, List.set_cons_succ])
    refine wpAnyH_take (i := 21) (oi := { dst := some 44, op := Op.fieldAddr 40 (Operand.tmp 43) 2, type := 0, pos := "edge.go:72", after := #[{ on := 20, ground := Ground.data }, { on := 14, ground := Ground.guard }], guard := some (14, false) }) (v := ?v3016) rfl (by kernel_rfl) (by kernel_rfl) (by kernel_rfl) (fun _ _ _ h => h) (Or.inl ⟨by rfl, ?hy3016⟩) hHeld ?_
    case hy3016 => (intro w hSw; (try dsimp only at hSw); go_simp; (try with_reducible rfl))
    (try simp only [Act.put, List.setIfInBounds_toArray, List.set_cons_zero, List.set_cons_succ])
    refine' wpAnyH_take (i := 22) (oi := { dst := some 45, op := Op.load 27 (Operand.tmp 44), type := 27, pos := "edge.go:72", after := #[{ on := 21, ground := Ground.data }, { on := 14, ground := Ground.guard }], guard := some (14, false) }) (v := _) rfl (by kernel_rfl) (by kernel_rfl) (by kernel_rfl) (fun _ _ _ h => h) (yieldsIf_load_mid (by rfl) _ _ rfl K2 3 rfl (nums .u8 b.o.id) _ (fun _ h => range_keep h i2) un rfl hi2.out) hHeld ?_
    (try simp only [Act.put, List.setIfInBounds_toArray, List.set_cons_zero, List.set_cons_succ])
    refine' wpAnyH_take (i := 23) (oi := { dst := some 46, op := Op.load 27 (Operand.tmp 11), type := 27, pos := "edge.go:72", after := #[{ on := 14, ground := Ground.guard }], guard := some (14, false) }) (v := _) rfl (by kernel_rfl) (by kernel_rfl) (by kernel_rfl) (fun _ _ _ h => h) (yieldsIf_load_mid (by rfl) _ _ rfl K4 0 rfl (nums .u8 hz32) _ (fun _ h => range_keep h z4) un rfl hz4.out) hHeld ?_
    (try simp only [Act.put, List.setIfInBounds_toArray, List.set_cons_zero, List.set_cons_succ])
    refine wpAnyH_take (i := 24) (oi := { dst := some 47, op := Op.binOp BinOp.eql 27 (Operand.tmp 45) (Operand.tmp 46) 27, type := 4, pos := "edge.go:72", after := #[{ on := 22, ground := Ground.data }, { on := 23, ground := Ground.data }, { on := 14, ground := Ground.guard }], guard := some (14, false) }) (v := ?v3017) rfl (by kernel_rfl) (by kernel_rfl) (by kernel_rfl) (fun _ _ _ h => h) (Or.inl ⟨by rfl, ?hy3017⟩) hHeld ?_
    case hy3017 => (intro w hSw; (try dsimp only at hSw); go_simp; (try with_reducible rfl))
    (try simp only [Act.put, List.setIfInBounds_toArray, List.set_cons_zero, List.set_cons_succ])
    refine wpAnyH_take (i := 25) (oi := { dst := some 48, op := Op.binOp BinOp.eql 4 (Operand.tmp 42) (Operand.tmp 47) 4, type := 4, pos := "edge.go:72", after := #[{ on := 19, ground := Ground.data }, { on := 24, ground := Ground.data }, { on := 14, ground := Ground.guard }], guard := some (14, false) }) (v := ?v3018) rfl (by kernel_rfl) (by kernel_rfl) (by kernel_rfl) (fun _ _ _ h => h) (Or.inl ⟨by rfl, ?hy3018⟩) hHeld ?_
    case hy3018 => (intro w hSw; (try dsimp only at hSw); go_simp; (try with_reducible rfl))
    (try simp only [Act.put, List.setIfInBounds_toArray, List.set_cons_zero, List.set_cons_succ])
    refine wpAnyH_take (i := 26) (oi := { dst := some 49, op := Op.pick (Operand.tmp 37) (Operand.const (Value.bool true)) (Operand.tmp 48), type := 4, pos := "edge.go:72", after := #[{ on := 14, ground := Ground.data }, { on := 25, ground := Ground.data }], guard := none }) (v := ?v3019) rfl (by kernel_rfl) (by kernel_rfl) (by kernel_rfl) (fun _ _ _ h => h) (Or.inl ⟨by rfl, ?hy3019⟩) hHeld ?_
    case hy3019 => (intro w hSw; (try dsimp only at hSw); go_simp; (try with_reducible rfl))
    (try simp only [Act.put, List.setIfInBounds_toArray, List.set_cons_zero, List.set_cons_succ])
    refine wpAnyH_take (i := 27) (oi := { dst := some 50, op := Op.move (Operand.tmp 49), type := 4, pos := "edge.go:72", after := #[{ on := 26, ground := Ground.data }, { on := 14, ground := Ground.chain }], guard := none }) (v := ?v3020) rfl (by kernel_rfl) (by kernel_rfl) (by kernel_rfl) (fun _ _ _ h => h) (Or.inl ⟨by rfl, ?hy3020⟩) hHeld ?_
    case hy3020 => (intro w hSw; (try dsimp only at hSw); go_simp; (try with_reducible rfl))
    (try simp only [Act.put, List.setIfInBounds_toArray, List.set_cons_zero, List.set_cons_succ])
    refine wpAnyH_take (i := 28) (oi := { dst := some 51, op := Op.fieldAddr 42 (Operand.tmp 6) 1, type := 0, pos := "edge.go:72", after := #[{ on := 27, ground := Ground.guard }], guard := some (27, false) }) (v := undef) rfl (by kernel_rfl) (by kernel_rfl) (by kernel_rfl) (fun _ _ _ h => h) (Or.inr ⟨by rfl, rfl⟩) hHeld ?_
    (try simp only [Act.put, List.setIfInBounds_toArray, List.set_cons_zero, List.set_cons_succ])
    refine wpAnyH_take (i := 29) (oi := { dst := some 52, op := Op.fieldAddr 40 (Operand.tmp 51) 5, type := 0, pos := "edge.go:72", after := #[{ on := 28, ground := Ground.data }, { on := 27, ground := Ground.guard }], guard := some (27, false) }) (v := undef) rfl (by kernel_rfl) (by kernel_rfl) (by kernel_rfl) (fun _ _ _ h => h) (Or.inr ⟨by rfl, rfl⟩) hHeld ?_
    (try simp only [Act.put, List.setIfInBounds_toArray, List.set_cons_zero, List.set_cons_succ])
    refine wpAnyH_take (i := 30) (oi := { dst := some 53, op := Op.load 3 (Operand.tmp 52), type := 3, pos := "edge.go:72", after := #[{ on := 29, ground := Ground.data }, { on := 27, ground := Ground.guard }], guard := some (27, false) }) (v := undef) rfl (by kernel_rfl) (by kernel_rfl) (by kernel_rfl) (fun _ _ _ h => h) (Or.inr ⟨by rfl, rfl⟩) hHeld ?_
    (try simp only [Act.put, List.setIfInBounds_toArray, List.set_cons_zero, List.set_cons_succ])
    refine wpAnyH_take (i := 31) (oi := { dst := some 54, op := Op.call { callee := Callee.value (Operand.func 28), args := #[Operand.tmp 53], argTypes := #[3] }, type := 4, pos := "edge.go:72", after := #[{ on := 30, ground := Ground.data }, { on := 27, ground := Ground.chain }, { on := 27, ground := Ground.guard }], guard := some (27, false) }) (v := undef) rfl (by kernel_rfl) (by kernel_rfl) (by kernel_rfl) (fun _ _ _ h => h) (Or.inr ⟨by rfl, rfl⟩) hHeld ?_
    (try simp only [Act.put, List.setIfInBounds_toArray, List.set_cons_zero, List.set_cons_succ])
    refine wpAnyH_take (i := 32) (oi := { dst := some 55, op := Op.unOp UnOp.not 4 (Operand.tmp 54), type := 4, pos := "edge.go:72", after := #[{ on := 31, ground := Ground.data }, { on := 27, ground := Ground.guard }], guard := some (27, false) }) (v := undef) rfl (by kernel_rfl) (by kernel_rfl) (by kernel_rfl) (fun _ _ _ h => h) (Or.inr ⟨by rfl, rfl⟩) hHeld ?_
    (try simp only [Act.put, List.setIfInBounds_toArray, List.set_cons_zero, List.set_cons_succ])
    refine wpAnyH_take (i := 33) (oi := { dst := some 56, op := Op.pick (Operand.tmp 50) (Operand.const (Value.bool true)) (Operand.tmp 55), type := 4, pos := "edge.go:72", after := #[{ on := 27, ground := Ground.data }, { on := 32, ground := Ground.data }], guard := none }) (v := ?v3021) rfl (by kernel_rfl) (by kernel_rfl) (by kernel_rfl) (fun _ _ _ h => h) (Or.inl ⟨by rfl, ?hy3021⟩) hHeld ?_
    case hy3021 => (intro w hSw; (try dsimp only at hSw); go_simp; (try with_reducible rfl))
    (try simp only [Act.put, List.setIfInBounds_toArray, List.set_cons_zero, List.set_cons_succ])
    refine wpAnyH_take (i := 34) (oi := { dst := some 57, op := Op.move (Operand.tmp 56), type := 4, pos := "edge.go:72", after := #[{ on := 33, ground := Ground.data }, { on := 31, ground := Ground.chain }], guard := none }) (v := ?v3022) rfl (by kernel_rfl) (by kernel_rfl) (by kernel_rfl) (fun _ _ _ h => h) (Or.inl ⟨by rfl, ?hy3022⟩) hHeld ?_
    case hy3022 => (intro w hSw; (try dsimp only at hSw); go_simp; (try with_reducible rfl))
    (try simp only [Act.put, List.setIfInBounds_toArray, List.set_cons_zero, List.set_cons_succ])
    refine wpAnyH_take (i := 35) (oi := { dst := some 58, op := Op.fieldAddr 42 (Operand.tmp 7) 1, type := 0, pos := "edge.go:72", after := #[{ on := 34, ground := Ground.guard }], guard := some (34, false) }) (v := undef) rfl (by kernel_rfl) (by kernel_rfl) (by kernel_rfl) (fun _ _ _ h => h) (Or.inr ⟨by rfl, rfl⟩) hHeld ?_
    (try simp only [Act.put, List.setIfInBounds_toArray, List.set_cons_zero, List.set_cons_succ])
    refine wpAnyH_take (i := 36) (oi := { dst := some 59, op := Op.fieldAddr 40 (Operand.tmp 58) 5, type := 0, pos := "edge.go:72", after := #[{ on := 35, ground := Ground.data }, { on := 34, ground := Ground.guard }], guard := some (34, false) }) (v := undef) rfl (by kernel_rfl) (by kernel_rfl) (by kernel_rfl) (fun _ _ _ h => h) (Or.inr ⟨by rfl, rfl⟩) hHeld ?_
    (try simp only [Act.put, List.setIfInBounds_toArray, List.set_cons_zero, List.set_cons_succ])
    refine wpAnyH_take (i := 37) (oi := { dst := some 60, op := Op.load 3 (Operand.tmp 59), type := 3, pos := "edge.go:72", after := #[{ on := 36, ground := Ground.data }, { on := 34, ground := Ground.guard }], guard := some (34, false) }) (v := undef) rfl (by kernel_rfl) (by kernel_rfl) (by kernel_rfl) (fun _ _ _ h => h) (Or.inr ⟨by rfl, rfl⟩) hHeld ?_
    (try simp only [Act.put, List.setIfInBounds_toArray, List.set_cons_zero, List.set_cons_succ])
    refine wpAnyH_take (i := 38) (oi := { dst := some 61, op := Op.call { callee := Callee.value (Operand.func 28), args := #[Operand.tmp 60], argTypes := #[3] }, type := 4, pos := "edge.go:72", after := #[{ on := 37, ground := Ground.data }, { on := 34, ground := Ground.chain }, { on := 34, ground := Ground.guard }], guard := some (34, false) }) (v := undef) rfl (by kernel_rfl) (by kernel_rfl) (by kernel_rfl) (fun _ _ _ h => h) (Or.inr ⟨by rfl, rfl⟩) hHeld ?_
    (try simp only [Act.put, List.setIfInBounds_toArray, List.set_cons_zero, List.set_cons_succ])
    refine wpAnyH_take (i := 39) (oi := { dst := some 62, op := Op.unOp UnOp.not 4 (Operand.tmp 61), type := 4, pos := "edge.go:72", after := #[{ on := 38, ground := Ground.data }, { on := 34, ground := Ground.guard }], guard := some (34, false) }) (v := undef) rfl (by kernel_rfl) (by kernel_rfl) (by kernel_rfl) (fun _ _ _ h => h) (Or.inr ⟨by rfl, rfl⟩) hHeld ?_
    (try simp only [Act.put, List.setIfInBounds_toArray, List.set_cons_zero, List.set_cons_succ])
    refine wpAnyH_take (i := 40) (oi := { dst := some 63, op := Op.pick (Operand.tmp 57) (Operand.const (Value.bool true)) (Operand.tmp 62), type := 4, pos := "edge.go:72", after := #[{ on := 34, ground := Ground.data }, { on := 39, ground := Ground.data }], guard := none }) (v := ?v3023) rfl (by kernel_rfl) (by kernel_rfl) (by kernel_rfl) (fun _ _ _ h => h) (Or.inl ⟨by rfl, ?hy3023⟩) hHeld ?_
    case hy3023 => (intro w hSw; (try dsimp only at hSw); go_simp; (try with_reducible rfl))
    (try simp only [Act.put, List.setIfInBounds_toArray, List.set_cons_zero, List.set_cons_succ])
    refine wpAnyH_take (i := 41) (oi := { dst := some 22, op := Op.assign (Operand.tmp 63), type := 4, pos := "edge.go:72", after := #[{ on := 40, ground := Ground.data }, { on := 38, ground := Ground.chain }], guard := none }) (v := ?v3024) rfl (by kernel_rfl) (by kernel_rfl) (by kernel_rfl) (fun _ _ _ h => h) (Or.inl ⟨by rfl, ?hy3024⟩) hHeld ?_
    case hy3024 => (intro w hSw; (try dsimp only at hSw); go_simp; (try with_reducible rfl))
    (try simp only [Act.put, List.setIfInBounds_toArray, List.set_cons_zero, List.set_cons_succ])
    refine wpAnyH_done (by kernel_rfl) ?_ _
    rotate_left
    all_goals exact ⟨rfl, ⟨rfl, rfl, rfl, rfl, rfl, rfl, rfl, rfl⟩, by rw [HR.out]; rfl, by assumption⟩
  | false =>
  cases h1 with
  | false =>
    refine wp_region_held_drew (S := fun w' => Below w.heap.size w w') (by kernel_rfl) ((Below.refl _ _).drew) (fun hHeld => ?_)
    try simp only [List.size_toArray, List.length_cons, List.length_nil, Nat.reduceAdd, Array.replicate_succ, Array.replicate_zero, List.push_toArray, List.nil_append, List.cons_append]
    refine wpAnyH_take (i := 0) (oi := { dst := some 23, op := Op.fieldAddr 42 (Operand.tmp 6) 0, type := 0, pos := "edge.go:72", after := #[], guard := none }) (v := ?v4001) rfl (by kernel_rfl) (by kernel_rfl) (by kernel_rfl) (fun _ _ _ h => h) (Or.inl ⟨by rfl, ?hy4001⟩) hHeld ?_
    case hy4001 => (intro w hSw; (try dsimp only at hSw); go_simp; (try with_reducible rfl))
    (try simp only [Act.put, List.setIfInBounds_toArray, List.set_cons_zero, List.set_cons_succ])
    refine wpAnyH_take (i := 1) (oi := { dst := some 24, op := Op.load 3 (Operand.tmp 23), type := 3, pos := "edge.go:72", after := #[{ on := 0, ground := Ground.data }], guard := none }) (v := (.int .i64 a.line)) rfl (by kernel_rfl) (by kernel_rfl) (by kernel_rfl) (fun _ _ _ h => h) (Or.inl ⟨by rfl, fun w h => by have c1 := cell_keep h l1; go_simp⟩) hHeld ?_
    (try simp only [Act.put, List.setIfInBounds_toArray, List.set_cons_zero, List.set_cons_succ])
    refine wpAnyH_take (i := 2) (oi := { dst := some 25, op := Op.fieldAddr 42 (Operand.tmp 7) 0, type := 0, pos := "edge.go:72", after := #[], guard := none }) (v := ?v4002) rfl (by kernel_rfl) (by kernel_rfl) (by kernel_rfl) (fun _ _ _ h => h) (Or.inl ⟨by rfl, ?hy4002⟩) hHeld ?_
    case hy4002 => (intro w hSw; (try dsimp only at hSw); go_simp; (try with_reducible rfl))
    (try simp only [Act.put, List.setIfInBounds_toArray, List.set_cons_zero, List.set_cons_succ])
    refine wpAnyH_take (i := 3) (oi := { dst := some 26, op := Op.load 3 (Operand.tmp 25), type := 3, pos := "edge.go:72", after := #[{ on := 2, ground := Ground.data }], guard := none }) (v := (.int .i64 b.line)) rfl (by kernel_rfl) (by kernel_rfl) (by kernel_rfl) (fun _ _ _ h => h) (Or.inl ⟨by rfl, fun w h => by have c1 := cell_keep h l2; go_simp⟩) hHeld ?_
    (try simp only [Act.put, List.setIfInBounds_toArray, List.set_cons_zero, List.set_cons_succ])
    refine wpAnyH_take (i := 4) (oi := { dst := some 27, op := Op.binOp BinOp.eql 3 (Operand.tmp 24) (Operand.tmp 26) 3, type := 4, pos := "edge.go:72", after := #[{ on := 1, ground := Ground.data }, { on := 3, ground := Ground.data }], guard := none }) (v := ?v4003) rfl (by kernel_rfl) (by kernel_rfl) (by kernel_rfl) (fun _ _ _ h => h) (Or.inl ⟨by rfl, ?hy4003⟩) hHeld ?_
    case hy4003 => (intro w hSw; (try dsimp only at hSw); go_simp; (try with_reducible rfl))
    (try simp only [Act.put, List.setIfInBounds_toArray, List.set_cons_zero, List.set_cons_succ])
    refine wpAnyH_take (i := 5) (oi := { dst := some 28, op := Op.move (Operand.tmp 27), type := 4, pos := "edge.go:72", after := #[{ on := 4, ground := Ground.data }], guard := none }) (v := ?v4004) rfl (by kernel_rfl) (by kernel_rfl) (by kernel_rfl) (fun _ _ _ h => h) (Or.inl ⟨by rfl, ?hy4004⟩) hHeld ?_
    case hy4004 => (intro w hSw; (try dsimp only at hSw); go_simp; (try with_reducible rfl))
    (try simp only [Act.put, List.setIfInBounds_toArray, List.set_cons_zero, List.set_cons_succ])
    refine wpAnyH_take (i := 6) (oi := { dst := some 29, op := Op.fieldAddr 42 (Operand.tmp 6) 1, type := 0, pos := "edge.go:72", after := #[{ on := 5, ground := Ground.guard }], guard := some (5, false) }) (v := ?v4005) rfl (by kernel_rfl) (by kernel_rfl) (by kernel_rfl) (fun _ _ _ h => h) (Or.inl ⟨by rfl, ?hy4005⟩) hHeld ?_
    case hy4005 => (intro w hSw; (try dsimp only at hSw); go_simp; (try with_reducible rfl))
    (try simp only [Act.put, List.setIfInBounds_toArray, List.set_cons_zero, List.set_cons_succ])
    refine wpAnyH_take (i := 7) (oi := { dst := some 30, op := Op.fieldAddr 40 (Operand.tmp 29) 4, type := 0, pos := "edge.go:72", after := #[{ on := 6, ground := Ground.data }, { on := 5, ground := Ground.guard }], guard := some (5, false) }) (v := ?v4006) rfl (by kernel_rfl) (by kernel_rfl) (by kernel_rfl) (fun _ _ _ h => h) (Or.inl ⟨by rfl, ?hy4006⟩) hHeld ?_
    case hy4006 => (intro w hSw; (try dsimp only at hSw); go_simp; (try with_reducible rfl))
    (try simp only [Act.put, List.setIfInBounds_toArray, List.set_cons_zero, List.set_cons_succ])
    refine' wpAnyH_take (i := 8) (oi := { dst := some 31, op := Op.load 27 (Operand.tmp 30), type := 27, pos := "edge.go:72", after := #[{ on := 7, ground := Ground.data }, { on := 5, ground := Ground.guard }], guard := some (5, false) }) (v := _) rfl (by kernel_rfl) (by kernel_rfl) (by kernel_rfl) (fun _ _ _ h => h) (yieldsIf_load_mid (by rfl) _ _ rfl K1 36 rfl (nums .u8 a.o.lock) _ (fun _ h => range_keep h k1) un rfl hk1.out) hHeld ?_
    (try simp only [Act.put, List.setIfInBounds_toArray, List.set_cons_zero, List.set_cons_succ])
    refine wpAnyH_take (i := 9) (oi := { dst := some 32, op := Op.fieldAddr 42 (Operand.tmp 7) 1, type := 0, pos := "edge.go:72", after := #[{ on := 5, ground := Ground.guard }], guard := some (5, false) }) (v := ?v4007) rfl (by kernel_rfl) (by kernel_rfl) (by kernel_rfl) (fun _ _ _ h => h) (Or.inl ⟨by rfl, ?hy4007⟩) hHeld ?_
    case hy4007 => (intro w hSw; (try dsimp only at hSw); go_simp; (try with_reducible rfl))
    (try simp only [Act.put, List.setIfInBounds_toArray, List.set_cons_zero, List.set_cons_succ])
    refine wpAnyH_take (i := 10) (oi := { dst := some 33, op := Op.fieldAddr 40 (Operand.tmp 32) 4, type := 0, pos := "edge.go:72", after := #[{ on := 9, ground := Ground.data }, { on := 5, ground := Ground.guard }], guard := some (5, false) }) (v := ?v4008) rfl (by kernel_rfl) (by kernel_rfl) (by kernel_rfl) (fun _ _ _ h => h) (Or.inl ⟨by rfl, ?hy4008⟩) hHeld ?_
    case hy4008 => (intro w hSw; (try dsimp only at hSw); go_simp; (try with_reducible rfl))
    (try simp only [Act.put, List.setIfInBounds_toArray, List.set_cons_zero, List.set_cons_succ])
    refine' wpAnyH_take (i := 11) (oi := { dst := some 34, op := Op.load 27 (Operand.tmp 33), type := 27, pos := "edge.go:72", after := #[{ on := 10, ground := Ground.data }, { on := 5, ground := Ground.guard }], guard := some (5, false) }) (v := _) rfl (by kernel_rfl) (by kernel_rfl) (by kernel_rfl) (fun _ _ _ h => h) (yieldsIf_load_mid (by rfl) _ _ rfl K2 36 rfl (nums .u8 b.o.lock) _ (fun _ h => range_keep h k2) un rfl hk2.out) hHeld ?_
    (try simp only [Act.put, List.setIfInBounds_toArray, List.set_cons_zero, List.set_cons_succ])
    refine wpAnyH_take (i := 12) (oi := { dst := some 35, op := Op.binOp BinOp.neq 27 (Operand.tmp 31) (Operand.tmp 34) 27, type := 4, pos := "edge.go:72", after := #[{ on := 8, ground := Ground.data }, { on := 11, ground := Ground.data }, { on := 5, ground := Ground.guard }], guard := some (5, false) }) (v := ?v4009) rfl (by kernel_rfl) (by kernel_rfl) (by kernel_rfl) (fun _ _ _ h => h) (Or.inl ⟨by rfl, ?hy4009⟩) hHeld ?_
    case hy4009 => (intro w hSw; (try dsimp only at hSw); go_simp; (try with_reducible rfl))
    (try simp only [Act.put, List.setIfInBounds_toArray, List.set_cons_zero, List.set_cons_succ])
    refine wpAnyH_take (i := 13) (oi := { dst := some 36, op := Op.pick (Operand.tmp 28) (Operand.const (Value.bool true)) (Operand.tmp 35), type := 4, pos := "edge.go:72", after := #[{ on := 5, ground := Ground.data }, { on := 12, ground := Ground.data }], guard := none }) (v := ?v4010) rfl (by kernel_rfl) (by kernel_rfl) (by kernel_rfl) (fun _ _ _ h => h) (Or.inl ⟨by rfl, ?hy4010⟩) hHeld ?_
    case hy4010 => (intro w hSw; (try dsimp only at hSw); go_simp; (try with_reducible rfl))
    (try simp only [Act.put, List.setIfInBounds_toArray, List.set_cons_zero, List.set_cons_succ])
    refine wpAnyH_take (i := 14) (oi := { dst := some 37, op := Op.move (Operand.tmp 36), type := 4, pos := "edge.go:72", after := #[{ on := 13, ground := Ground.data }, { on := 5, ground := Ground.chain }], guard := none }) (v := ?v4011) rfl (by kernel_rfl) (by kernel_rfl) (by kernel_rfl) (fun _ _ _ h => h) (Or.inl ⟨by rfl, ?hy4011⟩) hHeld ?_
    case hy4011 => (intro w hSw; (try dsimp only at hSw); go_simp; (try with_reducible rfl))
    (try simp only [Act.put, List.setIfInBounds_toArray, List.set_cons_zero, List.set_cons_succ])
    refine wpAnyH_take (i := 15) (oi := { dst := some 38, op := Op.fieldAddr 42 (Operand.tmp 6) 1, type := 0, pos := "edge.go:72", after := #[{ on := 14, ground := Ground.guard }], guard := some (14, false) }) (v := ?v4012) rfl (by kernel_rfl) (by kernel_rfl) (by kernel_rfl) (fun _ _ _ h => h) (Or.inl ⟨by rfl, ?hy4012⟩) hHeld ?_
    case hy4012 => (intro w hSw; (try dsimp only at hSw); go_simp; (try with_reducible rfl))
    (try simp only [Act.put, List.setIfInBounds_toArray, List.set_cons_zero, List.set_cons_succ])
    refine wpAnyH_take (i := 16) (oi := { dst := some 39, op := Op.fieldAddr 40 (Operand.tmp 38) 2, type := 0, pos := "edge.go:72", after := #[{ on := 15, ground := Ground.data }, { on := 14, ground := Ground.guard }], guard := some (14, false) }) (v := ?v4013) rfl (by kernel_rfl) (by kernel_rfl) (by kernel_rfl) (fun _ _ _ h => h) (Or.inl ⟨by rfl, ?hy4013⟩) hHeld ?_
    case hy4013 => (intro w hSw; (try dsimp only at hSw); go_simp; (try with_reducible rfl))
    (try simp only [Act.put, List.setIfInBounds_toArray, List.set_cons_zero, List.set_cons_succ])
    refine' wpAnyH_take (i := 17) (oi := { dst := some 40, op := Op.load 27 (Operand.tmp 39), type := 27, pos := "edge.go:72", after := #[{ on := 16, ground := Ground.data }, { on := 14, ground := Ground.guard }], guard := some (14, false) }) (v := _) rfl (by kernel_rfl) (by kernel_rfl) (by kernel_rfl) (fun _ _ _ h => h) (yieldsIf_load_mid (by rfl) _ _ rfl K1 3 rfl (nums .u8 a.o.id) _ (fun _ h => range_keep h i1) un rfl hi1.out) hHeld ?_
    (try simp only [Act.put, List.setIfInBounds_toArray, List.set_cons_zero, List.set_cons_succ])
    refine' wpAnyH_take (i := 18) (oi := { dst := some 41, op := Op.load 27 (Operand.tmp 11), type := 27, pos := "edge.go:72", after := #[{ on := 14, ground := Ground.guard }], guard := some (14, false) }) (v := _) rfl (by kernel_rfl) (by kernel_rfl) (by kernel_rfl) (fun _ _ _ h => h) (yieldsIf_load_mid (by rfl) _ _ rfl K4 0 rfl (nums .u8 hz32) _ (fun _ h => range_keep h z4) un rfl hz4.out) hHeld ?_
    (try simp only [Act.put, List.setIfInBounds_toArray, List.set_cons_zero, List.set_cons_succ])
    refine wpAnyH_take (i := 19) (oi := { dst := some 42, op := Op.binOp BinOp.eql 27 (Operand.tmp 40) (Operand.tmp 41) 27, type := 4, pos := "edge.go:72", after := #[{ on := 17, ground := Ground.data }, { on := 18, ground := Ground.data }, { on := 14, ground := Ground.guard }], guard := some (14, false) }) (v := ?v4014) rfl (by kernel_rfl) (by kernel_rfl) (by kernel_rfl) (fun _ _ _ h => h) (Or.inl ⟨by rfl, ?hy4014⟩) hHeld ?_
    case hy4014 => (intro w hSw; (try dsimp only at hSw); go_simp; (try with_reducible rfl))
    (try simp only [Act.put, List.setIfInBounds_toArray, List.set_cons_zero, List.set_cons_succ])
    refine wpAnyH_take (i := 20) (oi := { dst := some 43, op := Op.fieldAddr 42 (Operand.tmp 7) 1, type := 0, pos := "edge.go:72", after := #[{ on := 14, ground := Ground.guard }], guard := some (14, false) }) (v := ?v4015) rfl (by kernel_rfl) (by kernel_rfl) (by kernel_rfl) (fun _ _ _ h => h) (Or.inl ⟨by rfl, ?hy4015⟩) hHeld ?_
    case hy4015 => (intro w hSw; (try dsimp only at hSw); go_simp; (try with_reducible rfl))
    (try simp only [Act.put, List.setIfInBounds_toArray, List.set_cons_zero, List.set_cons_succ])
    refine wpAnyH_take (i := 21) (oi := { dst := some 44, op := Op.fieldAddr 40 (Operand.tmp 43) 2, type := 0, pos := "edge.go:72", after := #[{ on := 20, ground := Ground.data }, { on := 14, ground := Ground.guard }], guard := some (14, false) }) (v := ?v4016) rfl (by kernel_rfl) (by kernel_rfl) (by kernel_rfl) (fun _ _ _ h => h) (Or.inl ⟨by rfl, ?hy4016⟩) hHeld ?_
    case hy4016 => (intro w hSw; (try dsimp only at hSw); go_simp; (try with_reducible rfl))
    (try simp only [Act.put, List.setIfInBounds_toArray, List.set_cons_zero, List.set_cons_succ])
    refine' wpAnyH_take (i := 22) (oi := { dst := some 45, op := Op.load 27 (Operand.tmp 44), type := 27, pos := "edge.go:72", after := #[{ on := 21, ground := Ground.data }, { on := 14, ground := Ground.guard }], guard := some (14, false) }) (v := _) rfl (by kernel_rfl) (by kernel_rfl) (by kernel_rfl) (fun _ _ _ h => h) (yieldsIf_load_mid (by rfl) _ _ rfl K2 3 rfl (nums .u8 b.o.id) _ (fun _ h => range_keep h i2) un rfl hi2.out) hHeld ?_
    (try simp only [Act.put, List.setIfInBounds_toArray, List.set_cons_zero, List.set_cons_succ])
    refine' wpAnyH_take (i := 23) (oi := { dst := some 46, op := Op.load 27 (Operand.tmp 11), type := 27, pos := "edge.go:72", after := #[{ on := 14, ground := Ground.guard }], guard := some (14, false) }) (v := _) rfl (by kernel_rfl) (by kernel_rfl) (by kernel_rfl) (fun _ _ _ h => h) (yieldsIf_load_mid (by rfl) _ _ rfl K4 0 rfl (nums .u8 hz32) _ (fun _ h => range_keep h z4) un rfl hz4.out) hHeld ?_
    (try simp only [Act.put, List.setIfInBounds_toArray, List.set_cons_zero, List.set_cons_succ])
    refine wpAnyH_take (i := 24) (oi := { dst := some 47, op := Op.binOp BinOp.eql 27 (Operand.tmp 45) (Operand.tmp 46) 27, type := 4, pos := "edge.go:72", after := #[{ on := 22, ground := Ground.data }, { on := 23, ground := Ground.data }, { on := 14, ground := Ground.guard }], guard := some (14, false) }) (v := ?v4017) rfl (by kernel_rfl) (by kernel_rfl) (by kernel_rfl) (fun _ _ _ h => h) (Or.inl ⟨by rfl, ?hy4017⟩) hHeld ?_
    case hy4017 => (intro w hSw; (try dsimp only at hSw); go_simp; (try with_reducible rfl))
    (try simp only [Act.put, List.setIfInBounds_toArray, List.set_cons_zero, List.set_cons_succ])
    refine wpAnyH_take (i := 25) (oi := { dst := some 48, op := Op.binOp BinOp.eql 4 (Operand.tmp 42) (Operand.tmp 47) 4, type := 4, pos := "edge.go:72", after := #[{ on := 19, ground := Ground.data }, { on := 24, ground := Ground.data }, { on := 14, ground := Ground.guard }], guard := some (14, false) }) (v := ?v4018) rfl (by kernel_rfl) (by kernel_rfl) (by kernel_rfl) (fun _ _ _ h => h) (Or.inl ⟨by rfl, ?hy4018⟩) hHeld ?_
    case hy4018 => (intro w hSw; (try dsimp only at hSw); go_simp; (try with_reducible rfl))
    (try simp only [Act.put, List.setIfInBounds_toArray, List.set_cons_zero, List.set_cons_succ])
    refine wpAnyH_take (i := 26) (oi := { dst := some 49, op := Op.pick (Operand.tmp 37) (Operand.const (Value.bool true)) (Operand.tmp 48), type := 4, pos := "edge.go:72", after := #[{ on := 14, ground := Ground.data }, { on := 25, ground := Ground.data }], guard := none }) (v := ?v4019) rfl (by kernel_rfl) (by kernel_rfl) (by kernel_rfl) (fun _ _ _ h => h) (Or.inl ⟨by rfl, ?hy4019⟩) hHeld ?_
    case hy4019 => (intro w hSw; (try dsimp only at hSw); go_simp; (try with_reducible rfl))
    (try simp only [Act.put, List.setIfInBounds_toArray, List.set_cons_zero, List.set_cons_succ])
    refine wpAnyH_take (i := 27) (oi := { dst := some 50, op := Op.move (Operand.tmp 49), type := 4, pos := "edge.go:72", after := #[{ on := 26, ground := Ground.data }, { on := 14, ground := Ground.chain }], guard := none }) (v := ?v4020) rfl (by kernel_rfl) (by kernel_rfl) (by kernel_rfl) (fun _ _ _ h => h) (Or.inl ⟨by rfl, ?hy4020⟩) hHeld ?_
    case hy4020 => (intro w hSw; (try dsimp only at hSw); go_simp; (try with_reducible rfl))
    (try simp only [Act.put, List.setIfInBounds_toArray, List.set_cons_zero, List.set_cons_succ])
    refine wpAnyH_take (i := 28) (oi := { dst := some 51, op := Op.fieldAddr 42 (Operand.tmp 6) 1, type := 0, pos := "edge.go:72", after := #[{ on := 27, ground := Ground.guard }], guard := some (27, false) }) (v := ?v4021) rfl (by kernel_rfl) (by kernel_rfl) (by kernel_rfl) (fun _ _ _ h => h) (Or.inl ⟨by rfl, ?hy4021⟩) hHeld ?_
    case hy4021 => (intro w hSw; (try dsimp only at hSw); go_simp; (try with_reducible rfl))
    (try simp only [Act.put, List.setIfInBounds_toArray, List.set_cons_zero, List.set_cons_succ])
    refine wpAnyH_take (i := 29) (oi := { dst := some 52, op := Op.fieldAddr 40 (Operand.tmp 51) 5, type := 0, pos := "edge.go:72", after := #[{ on := 28, ground := Ground.data }, { on := 27, ground := Ground.guard }], guard := some (27, false) }) (v := ?v4022) rfl (by kernel_rfl) (by kernel_rfl) (by kernel_rfl) (fun _ _ _ h => h) (Or.inl ⟨by rfl, ?hy4022⟩) hHeld ?_
    case hy4022 => (intro w hSw; (try dsimp only at hSw); go_simp; (try with_reducible rfl))
    (try simp only [Act.put, List.setIfInBounds_toArray, List.set_cons_zero, List.set_cons_succ])
    refine wpAnyH_take (i := 30) (oi := { dst := some 53, op := Op.load 3 (Operand.tmp 52), type := 3, pos := "edge.go:72", after := #[{ on := 29, ground := Ground.data }, { on := 27, ground := Ground.guard }], guard := some (27, false) }) (v := (.int .i64 a.o.til)) rfl (by kernel_rfl) (by kernel_rfl) (by kernel_rfl) (fun _ _ _ h => h) (Or.inl ⟨by rfl, fun w h => by have c1 := cell_keep h u1; go_simp⟩) hHeld ?_
    (try simp only [Act.put, List.setIfInBounds_toArray, List.set_cons_zero, List.set_cons_succ])
    refine wpAnyH_ready (rs := [31]) (by kernel_rfl) (by simp) ?_
    refine AllReadyH.cons (o := { dst := some 54, op := Op.call { callee := Callee.value (Operand.func 28), args := #[Operand.tmp 53], argTypes := #[3] }, type := 4, pos := "edge.go:72", after := #[{ on := 30, ground := Ground.data }, { on := 27, ground := Ground.chain }, { on := 27, ground := Ground.guard }], guard := some (27, false) }) rfl (fun K hK => ?_) ?_
    go_simp; refine (W1 _).out.mono ?_; rintro e wq ⟨rfl, rfl⟩
    refine hK.out _ _ (hHeld) (fun hHeld => ?_)
    clear hK K
    (try simp only [List.setIfInBounds_toArray, List.set_cons_zero, List.set_cons_succ])
    refine wpAnyH_take (i := 32) (oi := { dst := some 55, op := Op.unOp UnOp.not 4 (Operand.tmp 54), type := 4, pos := "edge.go:72", after := #[{ on := 31, ground := Ground.data }, { on := 27, ground := Ground.guard }], guard := some (27, false) }) (v := ?v4023) rfl (by kernel_rfl) (by kernel_rfl) (by kernel_rfl) (fun _ _ _ h => h) (Or.inl ⟨by rfl, ?hy4023⟩) hHeld ?_
    case hy4023 => (intro w hSw; (try dsimp only at hSw); go_simp; (try with_reducible rfl))
    (try simp only [Act.put, List.setIfInBounds_toArray, List.set_cons_zero, List.set_cons_succ])
    refine wpAnyH_take (i := 33) (oi := { dst := some 56, op := Op.pick (Operand.tmp 50) (Operand.const (Value.bool true)) (Operand.tmp 55), type := 4, pos := "edge.go:72", after := #[{ on := 27, ground := Ground.data }, { on := 32, ground := Ground.data }], guard := none }) (v := ?v4024) rfl (by kernel_rfl) (by kernel_rfl) (by kernel_rfl) (fun _ _ _ h => h) (Or.inl ⟨by rfl, ?hy4024⟩) hHeld ?_
    case hy4024 => (intro w hSw; (try dsimp only at hSw); go_simp; (try with_reducible rfl))
    (try simp only [Act.put, List.setIfInBounds_toArray, List.set_cons_zero, List.set_cons_succ])
    refine wpAnyH_take (i := 34) (oi := { dst := some 57, op := Op.move (Operand.tmp 56), type := 4, pos := "edge.go:72", after := #[{ on := 33, ground := Ground.data }, { on := 31, ground := Ground.chain }], guard := none }) (v := ?v4025) rfl (by kernel_rfl) (by kernel_rfl) (by kernel_rfl) (fun _ _ _ h => h) (Or.inl ⟨by rfl, ?hy4025⟩) hHeld ?_
    case hy4025 => (intro w hSw; (try dsimp only at hSw); go_simp; (try with_reducible rfl))
    (try simp only [Act.put, List.setIfInBounds_toArray, List.set_cons_zero, List.set_cons_succ])
    refine wpAnyH_take (i := 35) (oi := { dst := some 58, op := Op.fieldAddr 42 (Operand.tmp 7) 1, type := 0, pos := "edge.go:72", after := #[{ on := 34, ground := Ground.guard }], guard := some (34, false) }) (v := undef) rfl (by kernel_rfl) (by kernel_rfl) (by kernel_rfl) (fun _ _ _ h => h) (Or.inr ⟨by rfl, rfl⟩) hHeld ?_
    (try simp only [Act.put, List.setIfInBounds_toArray, List.set_cons_zero, List.set_cons_succ])
    refine wpAnyH_take (i := 36) (oi := { dst := some 59, op := Op.fieldAddr 40 (Operand.tmp 58) 5, type := 0, pos := "edge.go:72", after := #[{ on := 35, ground := Ground.data }, { on := 34, ground := Ground.guard }], guard := some (34, false) }) (v := undef) rfl (by kernel_rfl) (by kernel_rfl) (by kernel_rfl) (fun _ _ _ h => h) (Or.inr ⟨by rfl, rfl⟩) hHeld ?_
    (try simp only [Act.put, List.setIfInBounds_toArray, List.set_cons_zero, List.set_cons_succ])
    refine wpAnyH_take (i := 37) (oi := { dst := some 60, op := Op.load 3 (Operand.tmp 59), type := 3, pos := "edge.go:72", after := #[{ on := 36, ground := Ground.data }, { on := 34, ground := Ground.guard }], guard := some (34, false) }) (v := undef) rfl (by kernel_rfl) (by kernel_rfl) (by kernel_rfl) (fun _ _ _ h => h) (Or.inr ⟨by rfl, rfl⟩) hHeld ?_
    (try simp only [Act.put, List.setIfInBounds_toArray, List.set_cons_zero, List.set_cons_succ])
    refine wpAnyH_take (i := 38) (oi := { dst := some 61, op := Op.call { callee := Callee.value (Operand.func 28), args := #[Operand.tmp 60], argTypes := #[3] }, type := 4, pos := "edge.go:72", after := #[{ on := 37, ground := Ground.data }, { on := 34, ground := Ground.chain }, { on := 34, ground := Ground.guard }], guard := some (34, false) }) (v := undef) rfl (by kernel_rfl) (by kernel_rfl) (by kernel_rfl) (fun _ _ _ h => h) (Or.inr ⟨by rfl, rfl⟩) hHeld ?_
    (try simp only [Act.put, List.setIfInBounds_toArray, List.set_cons_zero, List.set_cons_succ])
    refine wpAnyH_take (i := 39) (oi := { dst := some 62, op := Op.unOp UnOp.not 4 (Operand.tmp 61), type := 4, pos := "edge.go:72", after := #[{ on := 38, ground := Ground.data }, { on := 34, ground := Ground.guard }], guard := some (34, false) }) (v := undef) rfl (by kernel_rfl) (by kernel_rfl) (by kernel_rfl) (fun _ _ _ h => h) (Or.inr ⟨by rfl, rfl⟩) hHeld ?_
    (try simp only [Act.put, List.setIfInBounds_toArray, List.set_cons_zero, List.set_cons_succ])
    refine wpAnyH_take (i := 40) (oi := { dst := some 63, op := Op.pick (Operand.tmp 57) (Operand.const (Value.bool true)) (Operand.tmp 62), type := 4, pos := "edge.go:72", after := #[{ on := 34, ground := Ground.data }, { on := 39, ground := Ground.data }], guard := none }) (v := ?v4026) rfl (by kernel_rfl) (by kernel_rfl) (by kernel_rfl) (fun _ _ _ h => h) (Or.inl ⟨by rfl, ?hy4026⟩) hHeld ?_
    case hy4026 => (intro w hSw; (try dsimp only at hSw); go_simp; (try with_reducible rfl))
    (try simp only [Act.put, List.setIfInBounds_toArray, List.set_cons_zero, List.set_cons_succ])
    refine wpAnyH_take (i := 41) (oi := { dst := some 22, op := Op.assign (Operand.tmp 63), type := 4, pos := "edge.go:72", after := #[{ on := 40, ground := Ground.data }, { on := 38, ground := Ground.chain }], guard := none }) (v := ?v4027) rfl (by kernel_rfl) (by kernel_rfl) (by kernel_rfl) (fun _ _ _ h => h) (Or.inl ⟨by rfl, ?hy4027⟩) hHeld ?_
    case hy4027 => (intro w hSw; (try dsimp only at hSw); go_simp; (try with_reducible rfl))
    (try simp only [Act.put, List.setIfInBounds_toArray, List.set_cons_zero, List.set_cons_succ])
    refine wpAnyH_done (by kernel_rfl) ?_ _
    rotate_left
    exact AllReadyH.nil
    all_goals exact ⟨rfl, ⟨rfl, rfl, rfl, rfl, rfl, rfl, rfl, rfl⟩, by rw [HR.out]; rfl, by assumption⟩
  | true =>
    refine wp_region_held_drew (S := fun w' => Below w.heap.size w w') (by kernel_rfl) ((Below.refl _ _).drew) (fun hHeld => ?_)
    try simp only [List.size_toArray, List.length_cons, List.length_nil, Nat.reduceAdd, Array.replicate_succ, Array.replicate_zero, List.push_toArray, List.nil_append, List.cons_append]
    refine wpAnyH_take (i := 0) (oi := { dst := some 23, op := Op.fieldAddr 42 (Operand.tmp 6) 0, type := 0, pos := "edge.go:72", after := #[], guard := none }) (v := ?v5001) rfl (by kernel_rfl) (by kernel_rfl) (by kernel_rfl) (fun _ _ _ h => h) (Or.inl ⟨by rfl, ?hy5001⟩) hHeld ?_
    case hy5001 => (intro w hSw; (try dsimp only at hSw); go_simp; (try with_reducible rfl))
    (try simp only [Act.put, List.setIfInBounds_toArray, List.set_cons_zero, List.set_cons_succ])
    refine wpAnyH_take (i := 1) (oi := { dst := some 24, op := Op.load 3 (Operand.tmp 23), type := 3, pos := "edge.go:72", after := #[{ on := 0, ground := Ground.data }], guard := none }) (v := (.int .i64 a.line)) rfl (by kernel_rfl) (by kernel_rfl) (by kernel_rfl) (fun _ _ _ h => h) (Or.inl ⟨by rfl, fun w h => by have c1 := cell_keep h l1; go_simp⟩) hHeld ?_
    (try simp only [Act.put, List.setIfInBounds_toArray, List.set_cons_zero, List.set_cons_succ])
    refine wpAnyH_take (i := 2) (oi := { dst := some 25, op := Op.fieldAddr 42 (Operand.tmp 7) 0, type := 0, pos := "edge.go:72", after := #[], guard := none }) (v := ?v5002) rfl (by kernel_rfl) (by kernel_rfl) (by kernel_rfl) (fun _ _ _ h => h) (Or.inl ⟨by rfl, ?hy5002⟩) hHeld ?_
    case hy5002 => (intro w hSw; (try dsimp only at hSw); go_simp; (try with_reducible rfl))
    (try simp only [Act.put, List.setIfInBounds_toArray, List.set_cons_zero, List.set_cons_succ])
    refine wpAnyH_take (i := 3) (oi := { dst := some 26, op := Op.load 3 (Operand.tmp 25), type := 3, pos := "edge.go:72", after := #[{ on := 2, ground := Ground.data }], guard := none }) (v := (.int .i64 b.line)) rfl (by kernel_rfl) (by kernel_rfl) (by kernel_rfl) (fun _ _ _ h => h) (Or.inl ⟨by rfl, fun w h => by have c1 := cell_keep h l2; go_simp⟩) hHeld ?_
    (try simp only [Act.put, List.setIfInBounds_toArray, List.set_cons_zero, List.set_cons_succ])
    refine wpAnyH_take (i := 4) (oi := { dst := some 27, op := Op.binOp BinOp.eql 3 (Operand.tmp 24) (Operand.tmp 26) 3, type := 4, pos := "edge.go:72", after := #[{ on := 1, ground := Ground.data }, { on := 3, ground := Ground.data }], guard := none }) (v := ?v5003) rfl (by kernel_rfl) (by kernel_rfl) (by kernel_rfl) (fun _ _ _ h => h) (Or.inl ⟨by rfl, ?hy5003⟩) hHeld ?_
    case hy5003 => (intro w hSw; (try dsimp only at hSw); go_simp; (try with_reducible rfl))
    (try simp only [Act.put, List.setIfInBounds_toArray, List.set_cons_zero, List.set_cons_succ])
    refine wpAnyH_take (i := 5) (oi := { dst := some 28, op := Op.move (Operand.tmp 27), type := 4, pos := "edge.go:72", after := #[{ on := 4, ground := Ground.data }], guard := none }) (v := ?v5004) rfl (by kernel_rfl) (by kernel_rfl) (by kernel_rfl) (fun _ _ _ h => h) (Or.inl ⟨by rfl, ?hy5004⟩) hHeld ?_
    case hy5004 => (intro w hSw; (try dsimp only at hSw); go_simp; (try with_reducible rfl))
    (try simp only [Act.put, List.setIfInBounds_toArray, List.set_cons_zero, List.set_cons_succ])
    refine wpAnyH_take (i := 6) (oi := { dst := some 29, op := Op.fieldAddr 42 (Operand.tmp 6) 1, type := 0, pos := "edge.go:72", after := #[{ on := 5, ground := Ground.guard }], guard := some (5, false) }) (v := ?v5005) rfl (by kernel_rfl) (by kernel_rfl) (by kernel_rfl) (fun _ _ _ h => h) (Or.inl ⟨by rfl, ?hy5005⟩) hHeld ?_
    case hy5005 => (intro w hSw; (try dsimp only at hSw); go_simp; (try with_reducible rfl))
    (try simp only [Act.put, List.setIfInBounds_toArray, List.set_cons_zero, List.set_cons_succ])
    refine wpAnyH_take (i := 7) (oi := { dst := some 30, op := Op.fieldAddr 40 (Operand.tmp 29) 4, type := 0, pos := "edge.go:72", after := #[{ on := 6, ground := Ground.data }, { on := 5, ground := Ground.guard }], guard := some (5, false) }) (v := ?v5006) rfl (by kernel_rfl) (by kernel_rfl) (by kernel_rfl) (fun _ _ _ h => h) (Or.inl ⟨by rfl, ?hy5006⟩) hHeld ?_
    case hy5006 => (intro w hSw; (try dsimp only at hSw); go_simp; (try with_reducible rfl))
    (try simp only [Act.put, List.setIfInBounds_toArray, List.set_cons_zero, List.set_cons_succ])
    refine' wpAnyH_take (i := 8) (oi := { dst := some 31, op := Op.load 27 (Operand.tmp 30), type := 27, pos := "edge.go:72", after := #[{ on := 7, ground := Ground.data }, { on := 5, ground := Ground.guard }], guard := some (5, false) }) (v := _) rfl (by kernel_rfl) (by kernel_rfl) (by kernel_rfl) (fun _ _ _ h => h) (yieldsIf_load_mid (by rfl) _ _ rfl K1 36 rfl (nums .u8 a.o.lock) _ (fun _ h => range_keep h k1) un rfl hk1.out) hHeld ?_
    (try simp only [Act.put, List.setIfInBounds_toArray, List.set_cons_zero, List.set_cons_succ])
    refine wpAnyH_take (i := 9) (oi := { dst := some 32, op := Op.fieldAddr 42 (Operand.tmp 7) 1, type := 0, pos := "edge.go:72", after := #[{ on := 5, ground := Ground.guard }], guard := some (5, false) }) (v := ?v5007) rfl (by kernel_rfl) (by kernel_rfl) (by kernel_rfl) (fun _ _ _ h => h) (Or.inl ⟨by rfl, ?hy5007⟩) hHeld ?_
    case hy5007 => (intro w hSw; (try dsimp only at hSw); go_simp; (try with_reducible rfl))
    (try simp only [Act.put, List.setIfInBounds_toArray, List.set_cons_zero, List.set_cons_succ])
    refine wpAnyH_take (i := 10) (oi := { dst := some 33, op := Op.fieldAddr 40 (Operand.tmp 32) 4, type := 0, pos := "edge.go:72", after := #[{ on := 9, ground := Ground.data }, { on := 5, ground := Ground.guard }], guard := some (5, false) }) (v := ?v5008) rfl (by kernel_rfl) (by kernel_rfl) (by kernel_rfl) (fun _ _ _ h => h) (Or.inl ⟨by rfl, ?hy5008⟩) hHeld ?_
    case hy5008 => (intro w hSw; (try dsimp only at hSw); go_simp; (try with_reducible rfl))
    (try simp only [Act.put, List.setIfInBounds_toArray, List.set_cons_zero, List.set_cons_succ])
    refine' wpAnyH_take (i := 11) (oi := { dst := some 34, op := Op.load 27 (Operand.tmp 33), type := 27, pos := "edge.go:72", after := #[{ on := 10, ground := Ground.data }, { on := 5, ground := Ground.guard }], guard := some (5, false) }) (v := _) rfl (by kernel_rfl) (by kernel_rfl) (by kernel_rfl) (fun _ _ _ h => h) (yieldsIf_load_mid (by rfl) _ _ rfl K2 36 rfl (nums .u8 b.o.lock) _ (fun _ h => range_keep h k2) un rfl hk2.out) hHeld ?_
    (try simp only [Act.put, List.setIfInBounds_toArray, List.set_cons_zero, List.set_cons_succ])
    refine wpAnyH_take (i := 12) (oi := { dst := some 35, op := Op.binOp BinOp.neq 27 (Operand.tmp 31) (Operand.tmp 34) 27, type := 4, pos := "edge.go:72", after := #[{ on := 8, ground := Ground.data }, { on := 11, ground := Ground.data }, { on := 5, ground := Ground.guard }], guard := some (5, false) }) (v := ?v5009) rfl (by kernel_rfl) (by kernel_rfl) (by kernel_rfl) (fun _ _ _ h => h) (Or.inl ⟨by rfl, ?hy5009⟩) hHeld ?_
    case hy5009 => (intro w hSw; (try dsimp only at hSw); go_simp; (try with_reducible rfl))
    (try simp only [Act.put, List.setIfInBounds_toArray, List.set_cons_zero, List.set_cons_succ])
    refine wpAnyH_take (i := 13) (oi := { dst := some 36, op := Op.pick (Operand.tmp 28) (Operand.const (Value.bool true)) (Operand.tmp 35), type := 4, pos := "edge.go:72", after := #[{ on := 5, ground := Ground.data }, { on := 12, ground := Ground.data }], guard := none }) (v := ?v5010) rfl (by kernel_rfl) (by kernel_rfl) (by kernel_rfl) (fun _ _ _ h => h) (Or.inl ⟨by rfl, ?hy5010⟩) hHeld ?_
    case hy5010 => (intro w hSw; (try dsimp only at hSw); go_simp; (try with_reducible rfl))
    (try simp only [Act.put, List.setIfInBounds_toArray, List.set_cons_zero, List.set_cons_succ])
    refine wpAnyH_take (i := 14) (oi := { dst := some 37, op := Op.move (Operand.tmp 36), type := 4, pos := "edge.go:72", after := #[{ on := 13, ground := Ground.data }, { on := 5, ground := Ground.chain }], guard := none }) (v := ?v5011) rfl (by kernel_rfl) (by kernel_rfl) (by kernel_rfl) (fun _ _ _ h => h) (Or.inl ⟨by rfl, ?hy5011⟩) hHeld ?_
    case hy5011 => (intro w hSw; (try dsimp only at hSw); go_simp; (try with_reducible rfl))
    (try simp only [Act.put, List.setIfInBounds_toArray, List.set_cons_zero, List.set_cons_succ])
    refine wpAnyH_take (i := 15) (oi := { dst := some 38, op := Op.fieldAddr 42 (Operand.tmp 6) 1, type := 0, pos := "edge.go:72", after := #[{ on := 14, ground := Ground.guard }], guard := some (14, false) }) (v := ?v5012) rfl (by kernel_rfl) (by kernel_rfl) (by kernel_rfl) (fun _ _ _ h => h) (Or.inl ⟨by rfl, ?hy5012⟩) hHeld ?_
    case hy5012 => (intro w hSw; (try dsimp only at hSw); go_simp; (try with_reducible rfl))
    (try simp only [Act.put, List.setIfInBounds_toArray, List.set_cons_zero, List.set_cons_succ])
    refine wpAnyH_take (i := 16) (oi := { dst := some 39, op := Op.fieldAddr 40 (Operand.tmp 38) 2, type := 0, pos := "edge.go:72", after := #[{ on := 15, ground := Ground.data }, { on := 14, ground := Ground.guard }], guard := some (14, false) }) (v := ?v5013) rfl (by kernel_rfl) (by kernel_rfl) (by kernel_rfl) (fun _ _ _ h => h) (Or.inl ⟨by rfl, ?hy5013⟩) hHeld ?_
    case hy5013 => (intro w hSw; (try dsimp only at hSw); go_simp; (try with_reducible rfl))
    (try simp only [Act.put, List.setIfInBounds_toArray, List.set_cons_zero, List.set_cons_succ])
    refine' wpAnyH_take (i := 17) (oi := { dst := some 40, op := Op.load 27 (Operand.tmp 39), type := 27, pos := "edge.go:72", after := #[{ on := 16, ground := Ground.data }, { on := 14, ground := Ground.guard }], guard := some (14, false) }) (v := _) rfl (by kernel_rfl) (by kernel_rfl) (by kernel_rfl) (fun _ _ _ h => h) (yieldsIf_load_mid (by rfl) _ _ rfl K1 3 rfl (nums .u8 a.o.id) _ (fun _ h => range_keep h i1) un rfl hi1.out) hHeld ?_
    (try simp only [Act.put, List.setIfInBounds_toArray, List.set_cons_zero, List.set_cons_succ])
    refine' wpAnyH_take (i := 18) (oi := { dst := some 41, op := Op.load 27 (Operand.tmp 11), type := 27, pos := "edge.go:72", after := #[{ on := 14, ground := Ground.guard }], guard := some (14, false) }) (v := _) rfl (by kernel_rfl) (by kernel_rfl) (by kernel_rfl) (fun _ _ _ h => h) (yieldsIf_load_mid (by rfl) _ _ rfl K4 0 rfl (nums .u8 hz32) _ (fun _ h => range_keep h z4) un rfl hz4.out) hHeld ?_
    (try simp only [Act.put, List.setIfInBounds_toArray, List.set_cons_zero, List.set_cons_succ])
    refine wpAnyH_take (i := 19) (oi := { dst := some 42, op := Op.binOp BinOp.eql 27 (Operand.tmp 40) (Operand.tmp 41) 27, type := 4, pos := "edge.go:72", after := #[{ on := 17, ground := Ground.data }, { on := 18, ground := Ground.data }, { on := 14, ground := Ground.guard }], guard := some (14, false) }) (v := ?v5014) rfl (by kernel_rfl) (by kernel_rfl) (by kernel_rfl) (fun _ _ _ h => h) (Or.inl ⟨by rfl, ?hy5014⟩) hHeld ?_
    case hy5014 => (intro w hSw; (try dsimp only at hSw); go_simp; (try with_reducible rfl))
    (try simp only [Act.put, List.setIfInBounds_toArray, List.set_cons_zero, List.set_cons_succ])
    refine wpAnyH_take (i := 20) (oi := { dst := some 43, op := Op.fieldAddr 42 (Operand.tmp 7) 1, type := 0, pos := "edge.go:72", after := #[{ on := 14, ground := Ground.guard }], guard := some (14, false) }) (v := ?v5015) rfl (by kernel_rfl) (by kernel_rfl) (by kernel_rfl) (fun _ _ _ h => h) (Or.inl ⟨by rfl, ?hy5015⟩) hHeld ?_
    case hy5015 => (intro w hSw; (try dsimp only at hSw); go_simp; (try with_reducible rfl))
    (try simp only [Act.put, List.setIfInBounds_toArray, List.set_cons_zero, List.set_cons_succ])
    refine wpAnyH_take (i := 21) (oi := { dst := some 44, op := Op.fieldAddr 40 (Operand.tmp 43) 2, type := 0, pos := "edge.go:72", after := #[{ on := 20, ground := Ground.data }, { on := 14, ground := Ground.guard }], guard := some (14, false) }) (v := ?v5016) rfl (by kernel_rfl) (by kernel_rfl) (by kernel_rfl) (fun _ _ _ h => h) (Or.inl ⟨by rfl, ?hy5016⟩) hHeld ?_
    case hy5016 => (intro w hSw; (try dsimp only at hSw); go_simp; (try with_reducible rfl))
    (try simp only [Act.put, List.setIfInBounds_toArray, List.set_cons_zero, List.set_cons_succ])
    refine' wpAnyH_take (i := 22) (oi := { dst := some 45, op := Op.load 27 (Operand.tmp 44), type := 27, pos := "edge.go:72", after := #[{ on := 21, ground := Ground.data }, { on := 14, ground := Ground.guard }], guard := some (14, false) }) (v := _) rfl (by kernel_rfl) (by kernel_rfl) (by kernel_rfl) (fun _ _ _ h => h) (yieldsIf_load_mid (by rfl) _ _ rfl K2 3 rfl (nums .u8 b.o.id) _ (fun _ h => range_keep h i2) un rfl hi2.out) hHeld ?_
    (try simp only [Act.put, List.setIfInBounds_toArray, List.set_cons_zero, List.set_cons_succ])
    refine' wpAnyH_take (i := 23) (oi := { dst := some 46, op := Op.load 27 (Operand.tmp 11), type := 27, pos := "edge.go:72", after := #[{ on := 14, ground := Ground.guard }], guard := some (14, false) }) (v := _) rfl (by kernel_rfl) (by kernel_rfl) (by kernel_rfl) (fun _ _ _ h => h) (yieldsIf_load_mid (by rfl) _ _ rfl K4 0 rfl (nums .u8 hz32) _ (fun _ h => range_keep h z4) un rfl hz4.out) hHeld ?_
    (try simp only [Act.put, List.setIfInBounds_toArray, List.set_cons_zero, List.set_cons_succ])
    refine wpAnyH_take (i := 24) (oi := { dst := some 47, op := Op.binOp BinOp.eql 27 (Operand.tmp 45) (Operand.tmp 46) 27, type := 4, pos := "edge.go:72", after := #[{ on := 22, ground := Ground.data }, { on := 23, ground := Ground.data }, { on := 14, ground := Ground.guard }], guard := some (14, false) }) (v := ?v5017) rfl (by kernel_rfl) (by kernel_rfl) (by kernel_rfl) (fun _ _ _ h => h) (Or.inl ⟨by rfl, ?hy5017⟩) hHeld ?_
    case hy5017 => (intro w hSw; (try dsimp only at hSw); go_simp; (try with_reducible rfl))
    (try simp only [Act.put, List.setIfInBounds_toArray, List.set_cons_zero, List.set_cons_succ])
    refine wpAnyH_take (i := 25) (oi := { dst := some 48, op := Op.binOp BinOp.eql 4 (Operand.tmp 42) (Operand.tmp 47) 4, type := 4, pos := "edge.go:72", after := #[{ on := 19, ground := Ground.data }, { on := 24, ground := Ground.data }, { on := 14, ground := Ground.guard }], guard := some (14, false) }) (v := ?v5018) rfl (by kernel_rfl) (by kernel_rfl) (by kernel_rfl) (fun _ _ _ h => h) (Or.inl ⟨by rfl, ?hy5018⟩) hHeld ?_
    case hy5018 => (intro w hSw; (try dsimp only at hSw); go_simp; (try with_reducible rfl))
    (try simp only [Act.put, List.setIfInBounds_toArray, List.set_cons_zero, List.set_cons_succ])
    refine wpAnyH_take (i := 26) (oi := { dst := some 49, op := Op.pick (Operand.tmp 37) (Operand.const (Value.bool true)) (Operand.tmp 48), type := 4, pos := "edge.go:72", after := #[{ on := 14, ground := Ground.data }, { on := 25, ground := Ground.data }], guard := none }) (v := ?v5019) rfl (by kernel_rfl) (by kernel_rfl) (by kernel_rfl) (fun _ _ _ h => h) (Or.inl ⟨by rfl, ?hy5019⟩) hHeld ?_
    case hy5019 => (intro w hSw; (try dsimp only at hSw); go_simp; (try with_reducible rfl))
    (try simp only [Act.put, List.setIfInBounds_toArray, List.set_cons_zero, List.set_cons_succ])
    refine wpAnyH_take (i := 27) (oi := { dst := some 50, op := Op.move (Operand.tmp 49), type := 4, pos := "edge.go:72", after := #[{ on := 26, ground := Ground.data }, { on := 14, ground := Ground.chain }], guard := none }) (v := ?v5020) rfl (by kernel_rfl) (by kernel_rfl) (by kernel_rfl) (fun _ _ _ h => h) (Or.inl ⟨by rfl, ?hy5020⟩) hHeld ?_
    case hy5020 => (intro w hSw; (try dsimp only at hSw); go_simp; (try with_reducible rfl))
    (try simp only [Act.put, List.setIfInBounds_toArray, List.set_cons_zero, List.set_cons_succ])
    refine wpAnyH_take (i := 28) (oi := { dst := some 51, op := Op.fieldAddr 42 (Operand.tmp 6) 1, type := 0, pos := "edge.go:72", after := #[{ on := 27, ground := Ground.guard }], guard := some (27, false) }) (v := ?v5021) rfl (by kernel_rfl) (by kernel_rfl) (by kernel_rfl) (fun _ _ _ h => h) (Or.inl ⟨by rfl, ?hy5021⟩) hHeld ?_
    case hy5021 => (intro w hSw; (try dsimp only at hSw); go_simp; (try with_reducible rfl))
    (try simp only [Act.put, List.setIfInBounds_toArray, List.set_cons_zero, List.set_cons_succ])
    refine wpAnyH_take (i := 29) (oi := { dst := some 52, op := Op.fieldAddr 40 (Operand.tmp 51) 5, type := 0, pos := "edge.go:72", after := #[{ on := 28, ground := Ground.data }, { on := 27, ground := Ground.guard }], guard := some (27, false) }) (v := ?v5022) rfl (by kernel_rfl) (by kernel_rfl) (by kernel_rfl) (fun _ _ _ h => h) (Or.inl ⟨by rfl, ?hy5022⟩) hHeld ?_
    case hy5022 => (intro w hSw; (try dsimp only at hSw); go_simp; (try with_reducible rfl))
    (try simp only [Act.put, List.setIfInBounds_toArray, List.set_cons_zero, List.set_cons_succ])
    refine wpAnyH_take (i := 30) (oi := { dst := some 53, op := Op.load 3 (Operand.tmp 52), type := 3, pos := "edge.go:72", after := #[{ on := 29, ground := Ground.data }, { on := 27, ground := Ground.guard }], guard := some (27, false) }) (v := (.int .i64 a.o.til)) rfl (by kernel_rfl) (by kernel_rfl) (by kernel_rfl) (fun _ _ _ h => h) (Or.inl ⟨by rfl, fun w h => by have c1 := cell_keep h u1; go_simp⟩) hHeld ?_
    (try simp only [Act.put, List.setIfInBounds_toArray, List.set_cons_zero, List.set_cons_succ])
    refine wpAnyH_ready (rs := [31]) (by kernel_rfl) (by simp) ?_
    refine AllReadyH.cons (o := { dst := some 54, op := Op.call { callee := Callee.value (Operand.func 28), args := #[Operand.tmp 53], argTypes := #[3] }, type := 4, pos := "edge.go:72", after := #[{ on := 30, ground := Ground.data }, { on := 27, ground := Ground.chain }, { on := 27, ground := Ground.guard }], guard := some (27, false) }) rfl (fun K hK => ?_) ?_
    go_simp; refine (W1 _).out.mono ?_; rintro e wq ⟨rfl, rfl⟩
    refine hK.out _ _ (hHeld) (fun hHeld => ?_)
    clear hK K
    (try simp only [List.setIfInBounds_toArray, List.set_cons_zero, List.set_cons_succ])
    refine wpAnyH_take (i := 32) (oi := { dst := some 55, op := Op.unOp UnOp.not 4 (Operand.tmp 54), type := 4, pos := "edge.go:72", after := #[{ on := 31, ground := Ground.data }, { on := 27, ground := Ground.guard }], guard := some (27, false) }) (v := ?v5023) rfl (by kernel_rfl) (by kernel_rfl) (by kernel_rfl) (fun _ _ _ h => h) (Or.inl ⟨by rfl, ?hy5023⟩) hHeld ?_
    case hy5023 => (intro w hSw; (try dsimp only at hSw); go_simp; (try with_reducible rfl))
    (try simp only [Act.put, List.setIfInBounds_toArray, List.set_cons_zero, List.set_cons_succ])
    refine wpAnyH_take (i := 33) (oi := { dst := some 56, op := Op.pick (Operand.tmp 50) (Operand.const (Value.bool true)) (Operand.tmp 55), type := 4, pos := "edge.go:72", after := #[{ on := 27, ground := Ground.data }, { on := 32, ground := Ground.data }], guard := none }) (v := ?v5024) rfl (by kernel_rfl) (by kernel_rfl) (by kernel_rfl) (fun _ _ _ h => h) (Or.inl ⟨by rfl, ?hy5024⟩) hHeld ?_
    case hy5024 => (intro w hSw; (try dsimp only at hSw); go_simp; (try with_reducible rfl))
    (try simp only [Act.put, List.setIfInBounds_toArray, List.set_cons_zero, List.set_cons_succ])
    refine wpAnyH_take (i := 34) (oi := { dst := some 57, op := Op.move (Operand.tmp 56), type := 4, pos := "edge.go:72", after := #[{ on := 33, ground := Ground.data }, { on := 31, ground := Ground.chain }], guard := none }) (v := ?v5025) rfl (by kernel_rfl) (by kernel_rfl) (by kernel_rfl) (fun _ _ _ h => h) (Or.inl ⟨by rfl, ?hy5025⟩) hHeld ?_
    case hy5025 => (intro w hSw; (try dsimp only at hSw); go_simp; (try with_reducible rfl))
    (try simp only [Act.put, List.setIfInBounds_toArray, List.set_cons_zero, List.set_cons_succ])
    refine wpAnyH_take (i := 35) (oi := { dst := some 58, op := Op.fieldAddr 42 (Operand.tmp 7) 1, type := 0, pos := "edge.go:72", after := #[{ on := 34, ground := Ground.guard }], guard := some (34, false) }) (v := ?v5026) rfl (by kernel_rfl) (by kernel_rfl) (by kernel_rfl) (fun _ _ _ h => h) (Or.inl ⟨by rfl, ?hy5026⟩) hHeld ?_
    case hy5026 => (intro w hSw; (try dsimp only at hSw); go_simp; (try with_reducible rfl))
    (try simp only [Act.put, List.setIfInBounds_toArray, List.set_cons_zero, List.set_cons_succ])
    refine wpAnyH_take (i := 36) (oi := { dst := some 59, op := Op.fieldAddr 40 (Operand.tmp 58) 5, type := 0, pos := "edge.go:72", after := #[{ on := 35, ground := Ground.data }, { on := 34, ground := Ground.guard }], guard := some (34, false) }) (v := ?v5027) rfl (by kernel_rfl) (by kernel_rfl) (by kernel_rfl) (fun _ _ _ h => h) (Or.inl ⟨by rfl, ?hy5027⟩) hHeld ?_
    case hy5027 => (intro w hSw; (try dsimp only at hSw); go_simp; (try with_reducible rfl))
    (try simp only [Act.put, List.setIfInBounds_toArray, List.set_cons_zero, List.set_cons_succ])
    refine wpAnyH_take (i := 37) (oi := { dst := some 60, op := Op.load 3 (Operand.tmp 59), type := 3, pos := "edge.go:72", after := #[{ on := 36, ground := Ground.data }, { on := 34, ground := Ground.guard }], guard := some (34, false) }) (v := (.int .i64 b.o.til)) rfl (by kernel_rfl) (by kernel_rfl) (by kernel_rfl) (fun _ _ _ h => h) (Or.inl ⟨by rfl, fun w h => by have c1 := cell_keep h u2; go_simp⟩) hHeld ?_
    (try simp only [Act.put, List.setIfInBounds_toArray, List.set_cons_zero, List.set_cons_succ])
    refine wpAnyH_ready (rs := [38]) (by kernel_rfl) (by simp) ?_
    refine AllReadyH.cons (o := { dst := some 61, op := Op.call { callee := Callee.value (Operand.func 28), args := #[Operand.tmp 60], argTypes := #[3] }, type := 4, pos := "edge.go:72", after := #[{ on := 37, ground := Ground.data }, { on := 34, ground := Ground.chain }, { on := 34, ground := Ground.guard }], guard := some (34, false) }) rfl (fun K hK => ?_) ?_
    go_simp; refine (W2 _).out.mono ?_; rintro e wq ⟨rfl, rfl⟩
    refine hK.out _ _ (hHeld) (fun hHeld => ?_)
    clear hK K
    (try simp only [List.setIfInBounds_toArray, List.set_cons_zero, List.set_cons_succ])
    refine wpAnyH_take (i := 39) (oi := { dst := some 62, op := Op.unOp UnOp.not 4 (Operand.tmp 61), type := 4, pos := "edge.go:72", after := #[{ on := 38, ground := Ground.data }, { on := 34, ground := Ground.guard }], guard := some (34, false) }) (v := ?v5028) rfl (by kernel_rfl) (by kernel_rfl) (by kernel_rfl) (fun _ _ _ h => h) (Or.inl ⟨by rfl, ?hy5028⟩) hHeld ?_
    case hy5028 => (intro w hSw; (try dsimp only at hSw); go_simp; (try with_reducible rfl))
    (try simp only [Act.put, List.setIfInBounds_toArray, List.set_cons_zero, List.set_cons_succ])
    refine wpAnyH_take (i := 40) (oi := { dst := some 63, op := Op.pick (Operand.tmp 57) (Operand.const (Value.bool true)) (Operand.tmp 62), type := 4, pos := "edge.go:72", after := #[{ on := 34, ground := Ground.data }, { on := 39, ground := Ground.data }], guard := none }) (v := ?v5029) rfl (by kernel_rfl) (by kernel_rfl) (by kernel_rfl) (fun _ _ _ h => h) (Or.inl ⟨by rfl, ?hy5029⟩) hHeld ?_
    case hy5029 => (intro w hSw; (try dsimp only at hSw); go_simp; (try with_reducible rfl))
    (try simp only [Act.put, List.setIfInBounds_toArray, List.set_cons_zero, List.set_cons_succ])
    refine wpAnyH_take (i := 41) (oi := { dst := some 22, op := Op.assign (Operand.tmp 63), type := 4, pos := "edge.go:72", after := #[{ on := 40, ground := Ground.data }, { on := 38, ground := Ground.chain }], guard := none }) (v := ?v5030) rfl (by kernel_rfl) (by kernel_rfl) (by kernel_rfl) (fun _ _ _ h => h) (Or.inl ⟨by rfl, ?hy5030⟩) hHeld ?_
    case hy5030 => (intro w hSw; (try dsimp only at hSw); go_simp; (try with_reducible rfl))
    (try simp only [Act.put, List.setIfInBounds_toArray, List.set_cons_zero, List.set_cons_succ])
    refine wpAnyH_done (by kernel_rfl) ?_ _
    rotate_left
    exact AllReadyH.nil
    exact AllReadyH.nil
    all_goals exact ⟨rfl, ⟨rfl, rfl, rfl, rfl, rfl, rfl, rfl, rfl⟩, by rw [HR.out]; rfl, by assumption⟩
end Go.Proofs.YthccjefhlmngbaaDoor

/- Hand: regions 10 and 12. -/
namespace Go.Proofs.YthccjefhlmngbaaDoor
open Go.RowKit

/-- is it too late? -/
def timB (a b : Lg) (h dl : Int) : Bool := decide (b.o.til ≤ h) || decide (a.o.til - b.o.til < dl)
def Hand10 (eb K1 K2 K3 K4 : Nat) (h : Int) (a b : Lg) (dl : Int) (w : World) : Exit → Act → World → Prop
  | .normal, A, w' => A.defers = [] ∧ HSl eb K1 K2 K3 K4 h A.tmps ∧ tm A.tmps 90 = .bool (timB a b h dl) ∧ Below w.heap.size w w'
  | _, _, _ => False
set_option maxRecDepth 1000000 in
set_option maxHeartbeats 16000000 in
theorem hand10 {eb tb K1 K2 K3 K4 : Nat} {h dl : Int} {a b : Lg} {no : List Nat} {v4 : Value} {T : Array Value} {w : World} (s : HSl eb K1 K2 K3 K4 h T) (v : HVar K1 K2 K3 K4 a b no w) (ha : a.ok) (hb : b.ok) (i1 : isH a.o.til = true) (i2 : isH b.o.til = true)
    (hc : w.heap[eb]? = some (.cells #[.int .i64 dl, .pointer (some ⟨tb, 0, none⟩), v4] 77 (0, 0))) : (hndC 10).wp Tryd.prog (Hand10 eb K1 K2 K3 K4 h a b dl w) ⟨T, []⟩ w := by
  have e0 := s.t0
  have e4 := s.t4
  have e6 := s.t6
  have e7 := s.t7
  have e8 := s.t8
  have e10 := s.t10
  have e11 := s.t11
  rw [frameH s.size, e0, e4, e6, e7, e8, e10, e11]
  have u1 : w.cell? ⟨K1, 68, none⟩ = some (.int .i64 a.o.til) := (a.hasO.trans (Ofr.hasTil ha.o)).one (row_range v.r1)
  have u2 : w.cell? ⟨K2, 68, none⟩ = some (.int .i64 b.o.til) := (b.hasO.trans (Ofr.hasTil hb.o)).one (row_range v.r2)
  have d0 : w.cell? ⟨eb, 0, none⟩ = some (.int .i64 dl) := gen_cell (j := 0) (row_range (L := [.int .i64 dl, .pointer (some ⟨tb, 0, none⟩), v4]) hc) rfl
  have HR := hid (show timB a b h dl = (decide (b.o.til ≤ h) || decide (a.o.til - b.o.til < dl)) from rfl)
  unfold isH at i1 i2
  simp only [Bool.and_eq_true, decide_eq_true_eq] at i1 i2
  have ew : IntKind.i64.wrap (a.o.til - b.o.til) = a.o.til - b.o.til := by rw [IntKind.wrap_i64]; omega
  clear v ha hb hc
  obtain ⟨c1, hc1⟩ : ∃ c1, decide (b.o.til ≤ h) = c1 := ⟨_, rfl⟩
  obtain ⟨c2, hc2⟩ : ∃ c2, decide (a.o.til - b.o.til < dl) = c2 := ⟨_, rfl⟩
  rw [hc1, hc2] at HR
  clear i1 i2
  clear s e0 e4 e6 e7 e8 e10 e11
  conv => arg 2; whnf
  cases c1 with
  | true =>
    refine wp_region_held_drew (S := fun w' => Below w.heap.size w w') (by kernel_rfl) ((Below.refl _ _).drew) (fun hHeld => ?_)
    try simp only [List.size_toArray, List.length_cons, List.length_nil, Nat.reduceAdd, Array.replicate_succ, Array.replicate_zero, List.push_toArray, List.nil_append, List.cons_append]
    refine wpAnyH_take (i := 0) (oi := { dst := some 91, op := Op.fieldAddr 42 (Operand.tmp 7) 1, type := 0, pos := "edge.go:78", after := #[], guard := none }) (v := ?v6001) rfl (by kernel_rfl) (by kernel_rfl) (by kernel_rfl) (fun _ _ _ h => h) (Or.inl ⟨by rfl, ?hy6001⟩) hHeld ?_
    case hy6001 => (intro w hSw; (try dsimp only at hSw); go_simp; (try with_reducible rfl))
    (try simp only [Act.put, List.setIfInBounds_toArray, List.set_cons_zero, List.set_cons_succ])
    refine wpAnyH_take (i := 1) (oi := { dst := some 92, op := Op.fieldAddr 40 (Operand.tmp 91) 5, type := 0, pos := "edge.go:78", after := #[{ on := 0, ground := Ground.data }], guard := none }) (v := ?v6002) rfl (by kernel_rfl) (by kernel_rfl) (by kernel_rfl) (fun _ _ _ h => h) (Or.inl ⟨by rfl, ?hy6002⟩) hHeld ?_
    case hy6002 => (intro w hSw; (try dsimp only at hSw); go_simp; (try with_reducible rfl))
    (try simp only [Act.put, List.setIfInBounds_toArray, List.set_cons_zero, List.set_cons_succ])
    refine wpAnyH_take (i := 2) (oi := { dst := some 93, op := Op.load 3 (Operand.tmp 92), type := 3, pos := "edge.go:78", after := #[{ on := 1, ground := Ground.data }], guard := none }) (v := (.int .i64 b.o.til)) rfl (by kernel_rfl) (by kernel_rfl) (by kernel_rfl) (fun _ _ _ h => h) (Or.inl ⟨by rfl, fun w h => by have c9 := cell_keep h u2; go_simp⟩) hHeld ?_
    (try simp only [Act.put, List.setIfInBounds_toArray, List.set_cons_zero, List.set_cons_succ])
    refine wpAnyH_take (i := 3) (oi := { dst := some 94, op := Op.move (Operand.tmp 4), type := 3, pos := "edge.go:78", after := #[], guard := none }) (v := ?v6003) rfl (by kernel_rfl) (by kernel_rfl) (by kernel_rfl) (fun _ _ _ h => h) (Or.inl ⟨by rfl, ?hy6003⟩) hHeld ?_
    case hy6003 => (intro w hSw; (try dsimp only at hSw); go_simp; (try with_reducible rfl))
    (try simp only [Act.put, List.setIfInBounds_toArray, List.set_cons_zero, List.set_cons_succ])
    refine wpAnyH_take (i := 4) (oi := { dst := some 95, op := Op.binOp BinOp.leq 3 (Operand.tmp 93) (Operand.tmp 94) 3, type := 4, pos := "edge.go:78", after := #[{ on := 2, ground := Ground.data }, { on := 3, ground := Ground.data }], guard := none }) (v := ?v6004) rfl (by kernel_rfl) (by kernel_rfl) (by kernel_rfl) (fun _ _ _ h => h) (Or.inl ⟨by rfl, ?hy6004⟩) hHeld ?_
    case hy6004 => (intro w hSw; (try dsimp only at hSw); go_simp; (try with_reducible rfl))
    (try simp only [Act.put, List.setIfInBounds_toArray, List.set_cons_zero, List.set_cons_succ])
    refine wpAnyH_take (i := 5) (oi := { dst := some 96, op := Op.move (Operand.tmp 95), type := 4, pos := "edge.go:78", after := #[{ on := 4, ground := Ground.data }], guard := none }) (v := ?v6005) rfl (by kernel_rfl) (by kernel_rfl) (by kernel_rfl) (fun _ _ _ h => h) (Or.inl ⟨by rfl, ?hy6005⟩) hHeld ?_
    case hy6005 => (intro w hSw; (try dsimp only at hSw); go_simp; (try with_reducible rfl))
    (try simp only [Act.put, List.setIfInBounds_toArray, List.set_cons_zero, List.set_cons_succ])
    refine wpAnyH_take (i := 6) (oi := { dst := some 97, op := Op.fieldAddr 42 (Operand.tmp 6) 1, type := 0, pos := "edge.go:78", after := #[{ on := 5, ground := Ground.guard }], guard := some (5, false) }) (v := undef) rfl (by kernel_rfl) (by kernel_rfl) (by kernel_rfl) (fun _ _ _ h => h) (Or.inr ⟨by rfl, rfl⟩) hHeld ?_
    (try simp only [Act.put, List.setIfInBounds_toArray, List.set_cons_zero, List.set_cons_succ])
    refine wpAnyH_take (i := 7) (oi := { dst := some 98, op := Op.fieldAddr 40 (Operand.tmp 97) 5, type := 0, pos := "edge.go:78", after := #[{ on := 6, ground := Ground.data }, { on := 5, ground := Ground.guard }], guard := some (5, false) }) (v := undef) rfl (by kernel_rfl) (by kernel_rfl) (by kernel_rfl) (fun _ _ _ h => h) (Or.inr ⟨by rfl, rfl⟩) hHeld ?_
    (try simp only [Act.put, List.setIfInBounds_toArray, List.set_cons_zero, List.set_cons_succ])
    refine wpAnyH_take (i := 8) (oi := { dst := some 99, op := Op.load 3 (Operand.tmp 98), type := 3, pos := "edge.go:78", after := #[{ on := 7, ground := Ground.data }, { on := 5, ground := Ground.guard }], guard := some (5, false) }) (v := undef) rfl (by kernel_rfl) (by kernel_rfl) (by kernel_rfl) (fun _ _ _ h => h) (Or.inr ⟨by rfl, rfl⟩) hHeld ?_
    (try simp only [Act.put, List.setIfInBounds_toArray, List.set_cons_zero, List.set_cons_succ])
    refine wpAnyH_take (i := 9) (oi := { dst := some 100, op := Op.fieldAddr 42 (Operand.tmp 7) 1, type := 0, pos := "edge.go:78", after := #[{ on := 5, ground := Ground.guard }], guard := some (5, false) }) (v := undef) rfl (by kernel_rfl) (by kernel_rfl) (by kernel_rfl) (fun _ _ _ h => h) (Or.inr ⟨by rfl, rfl⟩) hHeld ?_
    (try simp only [Act.put, List.setIfInBounds_toArray, List.set_cons_zero, List.set_cons_succ])
    refine wpAnyH_take (i := 10) (oi := { dst := some 101, op := Op.fieldAddr 40 (Operand.tmp 100) 5, type := 0, pos := "edge.go:78", after := #[{ on := 9, ground := Ground.data }, { on := 5, ground := Ground.guard }], guard := some (5, false) }) (v := undef) rfl (by kernel_rfl) (by kernel_rfl) (by kernel_rfl) (fun _ _ _ h => h) (Or.inr ⟨by rfl, rfl⟩) hHeld ?_
    (try simp only [Act.put, List.setIfInBounds_toArray, List.set_cons_zero, List.set_cons_succ])
    refine wpAnyH_take (i := 11) (oi := { dst := some 102, op := Op.load 3 (Operand.tmp 101), type := 3, pos := "edge.go:78", after := #[{ on := 10, ground := Ground.data }, { on := 5, ground := Ground.guard }], guard := some (5, false) }) (v := undef) rfl (by kernel_rfl) (by kernel_rfl) (by kernel_rfl) (fun _ _ _ h => h) (Or.inr ⟨by rfl, rfl⟩) hHeld ?_
    (try simp only [Act.put, List.setIfInBounds_toArray, List.set_cons_zero, List.set_cons_succ])
    refine wpAnyH_take (i := 12) (oi := { dst := some 103, op := Op.binOp BinOp.sub 3 (Operand.tmp 99) (Operand.tmp 102) 3, type := 3, pos := "edge.go:78", after := #[{ on := 8, ground := Ground.data }, { on := 11, ground := Ground.data }, { on := 5, ground := Ground.guard }], guard := some (5, false) }) (v := undef) rfl (by kernel_rfl) (by kernel_rfl) (by kernel_rfl) (fun _ _ _ h => h) (Or.inr ⟨by rfl, rfl⟩) hHeld ?_
    (try simp only [Act.put, List.setIfInBounds_toArray, List.set_cons_zero, List.set_cons_succ])
    refine wpAnyH_take (i := 13) (oi := { dst := some 104, op := Op.move (Operand.tmp 0), type := 34, pos := "edge.go:78", after := #[{ on := 5, ground := Ground.guard }], guard := some (5, false) }) (v := undef) rfl (by kernel_rfl) (by kernel_rfl) (by kernel_rfl) (fun _ _ _ h => h) (Or.inr ⟨by rfl, rfl⟩) hHeld ?_
    (try simp only [Act.put, List.setIfInBounds_toArray, List.set_cons_zero, List.set_cons_succ])
    refine wpAnyH_take (i := 14) (oi := { dst := some 105, op := Op.nilCheck (Operand.tmp 104), type := 0, pos := "edge.go:78", after := #[{ on := 13, ground := Ground.data }, { on := 5, ground := Ground.guard }], guard := some (5, false) }) (v := undef) rfl (by kernel_rfl) (by kernel_rfl) (by kernel_rfl) (fun _ _ _ h => h) (Or.inr ⟨by rfl, rfl⟩) hHeld ?_
    (try simp only [Act.put, List.setIfInBounds_toArray, List.set_cons_zero, List.set_cons_succ])
    refine wpAnyH_take (i := 15) (oi := { dst := some 106, op := Op.fieldAddr 77 (Operand.tmp 105) 0, type := 0, pos := "edge.go:78", after := #[{ on := 14, ground := Ground.data }, { on := 5, ground := Ground.guard }], guard := some (5, false) }) (v := undef) rfl (by kernel_rfl) (by kernel_rfl) (by kernel_rfl) (fun _ _ _ h => h) (Or.inr ⟨by rfl, rfl⟩) hHeld ?_
    (try simp only [Act.put, List.setIfInBounds_toArray, List.set_cons_zero, List.set_cons_succ])
    refine wpAnyH_take (i := 16) (oi := { dst := some 107, op := Op.load 3 (Operand.tmp 106), type := 3, pos := "edge.go:78", after := #[{ on := 15, ground := Ground.data }, { on := 5, ground := Ground.guard }], guard := some (5, false) }) (v := undef) rfl (by kernel_rfl) (by kernel_rfl) (by kernel_rfl) (fun _ _ _ h => h) (Or.inr ⟨by rfl, rfl⟩) hHeld ?_
    (try simp only [Act.put, List.setIfInBounds_toArray, List.set_cons_zero, List.set_cons_succ])
    refine wpAnyH_take (i := 17) (oi := { dst := some 108, op := Op.binOp BinOp.lss 3 (Operand.tmp 103) (Operand.tmp 107) 3, type := 4, pos := "edge.go:78", after := #[{ on := 12, ground := Ground.data }, { on := 16, ground := Ground.data }, { on := 5, ground := Ground.guard }], guard := some (5, false) }) (v := undef) rfl (by kernel_rfl) (by kernel_rfl) (by kernel_rfl) (fun _ _ _ h => h) (Or.inr ⟨by rfl, rfl⟩) hHeld ?_
    (try simp only [Act.put, List.setIfInBounds_toArray, List.set_cons_zero, List.set_cons_succ])
    refine wpAnyH_take (i := 18) (oi := { dst := some 109, op := Op.pick (Operand.tmp 96) (Operand.const (Value.bool true)) (Operand.tmp 108), type := 4, pos := "edge.go:78", after := #[{ on := 5, ground := Ground.data }, { on := 17, ground := Ground.data }], guard := none }) (v := ?v6006) rfl (by kernel_rfl) (by kernel_rfl) (by kernel_rfl) (fun _ _ _ h => h) (Or.inl ⟨by rfl, ?hy6006⟩) hHeld ?_
    case hy6006 => (intro w hSw; (try dsimp only at hSw); go_simp; (try with_reducible rfl))
    (try simp only [Act.put, List.setIfInBounds_toArray, List.set_cons_zero, List.set_cons_succ])
    refine wpAnyH_take (i := 19) (oi := { dst := some 90, op := Op.assign (Operand.tmp 109), type := 4, pos := "edge.go:78", after := #[{ on := 18, ground := Ground.data }, { on := 5, ground := Ground.chain }], guard := none }) (v := ?v6007) rfl (by kernel_rfl) (by kernel_rfl) (by kernel_rfl) (fun _ _ _ h => h) (Or.inl ⟨by rfl, ?hy6007⟩) hHeld ?_
    case hy6007 => (intro w hSw; (try dsimp only at hSw); go_simp; (try with_reducible rfl))
    (try simp only [Act.put, List.setIfInBounds_toArray, List.set_cons_zero, List.set_cons_succ])
    refine wpAnyH_done (by kernel_rfl) ?_ _
    rotate_left
    all_goals exact ⟨rfl, ⟨rfl, rfl, rfl, rfl, rfl, rfl, rfl, rfl⟩, by rw [HR.out]; rfl, by assumption⟩
  | false =>
    refine wp_region_held_drew (S := fun w' => Below w.heap.size w w') (by kernel_rfl) ((Below.refl _ _).drew) (fun hHeld => ?_)
    try simp only [List.size_toArray, List.length_cons, List.length_nil, Nat.reduceAdd, Array.replicate_succ, Array.replicate_zero, List.push_toArray, List.nil_append, List.cons_append]
    refine wpAnyH_take (i := 0) (oi := { dst := some 91, op := Op.fieldAddr 42 (Operand.tmp 7) 1, type := 0, pos := "edge.go:78", after := #[], guard := none }) (v := ?v7001) rfl (by kernel_rfl) (by kernel_rfl) (by kernel_rfl) (fun _ _ _ h => h) (Or.inl ⟨by rfl, ?hy7001⟩) hHeld ?_
    case hy7001 => (intro w hSw; (try dsimp only at hSw); go_simp; (try with_reducible rfl))
    (try simp only [Act.put, List.setIfInBounds_toArray, List.set_cons_zero, List.set_cons_succ])
    refine wpAnyH_take (i := 1) (oi := { dst := some 92, op := Op.fieldAddr 40 (Operand.tmp 91) 5, type := 0, pos := "edge.go:78", after := #[{ on := 0, ground := Ground.data }], guard := none }) (v := ?v7002) rfl (by kernel_rfl) (by kernel_rfl) (by kernel_rfl) (fun _ _ _ h => h) (Or.inl ⟨by rfl, ?hy7002⟩) hHeld ?_
    case hy7002 => (intro w hSw; (try dsimp only at hSw); go_simp; (try with_reducible rfl))
    (try simp only [Act.put, List.setIfInBounds_toArray, List.set_cons_zero, List.set_cons_succ])
    refine wpAnyH_take (i := 2) (oi := { dst := some 93, op := Op.load 3 (Operand.tmp 92), type := 3, pos := "edge.go:78", after := #[{ on := 1, ground := Ground.data }], guard := none }) (v := (.int .i64 b.o.til)) rfl (by kernel_rfl) (by kernel_rfl) (by kernel_rfl) (fun _ _ _ h => h) (Or.inl ⟨by rfl, fun w h => by have c9 := cell_keep h u2; go_simp⟩) hHeld ?_
    (try simp only [Act.put, List.setIfInBounds_toArray, List.set_cons_zero, List.set_cons_succ])
    refine wpAnyH_take (i := 3) (oi := { dst := some 94, op := Op.move (Operand.tmp 4), type := 3, pos := "edge.go:78", after := #[], guard := none }) (v := ?v7003) rfl (by kernel_rfl) (by kernel_rfl) (by kernel_rfl) (fun _ _ _ h => h) (Or.inl ⟨by rfl, ?hy7003⟩) hHeld ?_
    case hy7003 => (intro w hSw; (try dsimp only at hSw); go_simp; (try with_reducible rfl))
    (try simp only [Act.put, List.setIfInBounds_toArray, List.set_cons_zero, List.set_cons_succ])
    refine wpAnyH_take (i := 4) (oi := { dst := some 95, op := Op.binOp BinOp.leq 3 (Operand.tmp 93) (Operand.tmp 94) 3, type := 4, pos := "edge.go:78", after := #[{ on := 2, ground := Ground.data }, { on := 3, ground := Ground.data }], guard := none }) (v := ?v7004) rfl (by kernel_rfl) (by kernel_rfl) (by kernel_rfl) (fun _ _ _ h => h) (Or.inl ⟨by rfl, ?hy7004⟩) hHeld ?_
    case hy7004 => (intro w hSw; (try dsimp only at hSw); go_simp; (try with_reducible rfl))
    (try simp only [Act.put, List.setIfInBounds_toArray, List.set_cons_zero, List.set_cons_succ])
    refine wpAnyH_take (i := 5) (oi := { dst := some 96, op := Op.move (Operand.tmp 95), type := 4, pos := "edge.go:78", after := #[{ on := 4, ground := Ground.data }], guard := none }) (v := ?v7005) rfl (by kernel_rfl) (by kernel_rfl) (by kernel_rfl) (fun _ _ _ h => h) (Or.inl ⟨by rfl, ?hy7005⟩) hHeld ?_
    case hy7005 => (intro w hSw; (try dsimp only at hSw); go_simp; (try with_reducible rfl))
    (try simp only [Act.put, List.setIfInBounds_toArray, List.set_cons_zero, List.set_cons_succ])
    refine wpAnyH_take (i := 6) (oi := { dst := some 97, op := Op.fieldAddr 42 (Operand.tmp 6) 1, type := 0, pos := "edge.go:78", after := #[{ on := 5, ground := Ground.guard }], guard := some (5, false) }) (v := ?v7006) rfl (by kernel_rfl) (by kernel_rfl) (by kernel_rfl) (fun _ _ _ h => h) (Or.inl ⟨by rfl, ?hy7006⟩) hHeld ?_
    case hy7006 => (intro w hSw; (try dsimp only at hSw); go_simp; (try with_reducible rfl))
    (try simp only [Act.put, List.setIfInBounds_toArray, List.set_cons_zero, List.set_cons_succ])
    refine wpAnyH_take (i := 7) (oi := { dst := some 98, op := Op.fieldAddr 40 (Operand.tmp 97) 5, type := 0, pos := "edge.go:78", after := #[{ on := 6, ground := Ground.data }, { on := 5, ground := Ground.guard }], guard := some (5, false) }) (v := ?v7007) rfl (by kernel_rfl) (by kernel_rfl) (by kernel_rfl) (fun _ _ _ h => h) (Or.inl ⟨by rfl, ?hy7007⟩) hHeld ?_
    case hy7007 => (intro w hSw; (try dsimp only at hSw); go_simp; (try with_reducible rfl))
    (try simp only [Act.put, List.setIfInBounds_toArray, List.set_cons_zero, List.set_cons_succ])
    refine wpAnyH_take (i := 8) (oi := { dst := some 99, op := Op.load 3 (Operand.tmp 98), type := 3, pos := "edge.go:78", after := #[{ on := 7, ground := Ground.data }, { on := 5, ground := Ground.guard }], guard := some (5, false) }) (v := (.int .i64 a.o.til)) rfl (by kernel_rfl) (by kernel_rfl) (by kernel_rfl) (fun _ _ _ h => h) (Or.inl ⟨by rfl, fun w h => by have c9 := cell_keep h u1; go_simp⟩) hHeld ?_
    (try simp only [Act.put, List.setIfInBounds_toArray, List.set_cons_zero, List.set_cons_succ])
    refine wpAnyH_take (i := 9) (oi := { dst := some 100, op := Op.fieldAddr 42 (Operand.tmp 7) 1, type := 0, pos := "edge.go:78", after := #[{ on := 5, ground := Ground.guard }], guard := some (5, false) }) (v := ?v7008) rfl (by kernel_rfl) (by kernel_rfl) (by kernel_rfl) (fun _ _ _ h => h) (Or.inl ⟨by rfl, ?hy7008⟩) hHeld ?_
    case hy7008 => (intro w hSw; (try dsimp only at hSw); go_simp; (try with_reducible rfl))
    (try simp only [Act.put, List.setIfInBounds_toArray, List.set_cons_zero, List.set_cons_succ])
    refine wpAnyH_take (i := 10) (oi := { dst := some 101, op := Op.fieldAddr 40 (Operand.tmp 100) 5, type := 0, pos := "edge.go:78", after := #[{ on := 9, ground := Ground.data }, { on := 5, ground := Ground.guard }], guard := some (5, false) }) (v := ?v7009) rfl (by kernel_rfl) (by kernel_rfl) (by kernel_rfl) (fun _ _ _ h => h) (Or.inl ⟨by rfl, ?hy7009⟩) hHeld ?_
    case hy7009 => (intro w hSw; (try dsimp only at hSw); go_simp; (try with_reducible rfl))
    (try simp only [Act.put, List.setIfInBounds_toArray, List.set_cons_zero, List.set_cons_succ])
    refine wpAnyH_take (i := 11) (oi := { dst := some 102, op := Op.load 3 (Operand.tmp 101), type := 3, pos := "edge.go:78", after := #[{ on := 10, ground := Ground.data }, { on := 5, ground := Ground.guard }], guard := some (5, false) }) (v := (.int .i64 b.o.til)) rfl (by kernel_rfl) (by kernel_rfl) (by kernel_rfl) (fun _ _ _ h => h) (Or.inl ⟨by rfl, fun w h => by have c9 := cell_keep h u2; go_simp⟩) hHeld ?_
    (try simp only [Act.put, List.setIfInBounds_toArray, List.set_cons_zero, List.set_cons_succ])
    refine wpAnyH_take (i := 12) (oi := { dst := some 103, op := Op.binOp BinOp.sub 3 (Operand.tmp 99) (Operand.tmp 102) 3, type := 3, pos := "edge.go:78", after := #[{ on := 8, ground := Ground.data }, { on := 11, ground := Ground.data }, { on := 5, ground := Ground.guard }], guard := some (5, false) }) (v := ?v7010) rfl (by kernel_rfl) (by kernel_rfl) (by kernel_rfl) (fun _ _ _ h => h) (Or.inl ⟨by rfl, ?hy7010⟩) hHeld ?_
    case hy7010 => (intro w hSw; (try dsimp only at hSw); go_simp; (try with_reducible rfl))
    (try simp only [Act.put, List.setIfInBounds_toArray, List.set_cons_zero, List.set_cons_succ])
    refine wpAnyH_take (i := 13) (oi := { dst := some 104, op := Op.move (Operand.tmp 0), type := 34, pos := "edge.go:78", after := #[{ on := 5, ground := Ground.guard }], guard := some (5, false) }) (v := ?v7011) rfl (by kernel_rfl) (by kernel_rfl) (by kernel_rfl) (fun _ _ _ h => h) (Or.inl ⟨by rfl, ?hy7011⟩) hHeld ?_
    case hy7011 => (intro w hSw; (try dsimp only at hSw); go_simp; (try with_reducible rfl))
    (try simp only [Act.put, List.setIfInBounds_toArray, List.set_cons_zero, List.set_cons_succ])
    refine wpAnyH_take (i := 14) (oi := { dst := some 105, op := Op.nilCheck (Operand.tmp 104), type := 0, pos := "edge.go:78", after := #[{ on := 13, ground := Ground.data }, { on := 5, ground := Ground.guard }], guard := some (5, false) }) (v := ?v7012) rfl (by kernel_rfl) (by kernel_rfl) (by kernel_rfl) (fun _ _ _ h => h) (Or.inl ⟨by rfl, ?hy7012⟩) hHeld ?_
    case hy7012 => (intro w hSw; (try dsimp only at hSw); go_simp; (try with_reducible rfl))
    (try simp only [Act.put, List.setIfInBounds_toArray, List.set_cons_zero, List.set_cons_succ])
    refine wpAnyH_take (i := 15) (oi := { dst := some 106, op := Op.fieldAddr 77 (Operand.tmp 105) 0, type := 0, pos := "edge.go:78", after := #[{ on := 14, ground := Ground.data }, { on := 5, ground := Ground.guard }], guard := some (5, false) }) (v := ?v7013) rfl (by kernel_rfl) (by kernel_rfl) (by kernel_rfl) (fun _ _ _ h => h) (Or.inl ⟨by rfl, ?hy7013⟩) hHeld ?_
    case hy7013 => (intro w hSw; (try dsimp only at hSw); go_simp; (try with_reducible rfl))
    (try simp only [Act.put, List.setIfInBounds_toArray, List.set_cons_zero, List.set_cons_succ])
    refine wpAnyH_take (i := 16) (oi := { dst := some 107, op := Op.load 3 (Operand.tmp 106), type := 3, pos := "edge.go:78", after := #[{ on := 15, ground := Ground.data }, { on := 5, ground := Ground.guard }], guard := some (5, false) }) (v := (.int .i64 dl)) rfl (by kernel_rfl) (by kernel_rfl) (by kernel_rfl) (fun _ _ _ h => h) (Or.inl ⟨by rfl, fun w h => by have c9 := cell_keep h d0; go_simp⟩) hHeld ?_
    (try simp only [Act.put, List.setIfInBounds_toArray, List.set_cons_zero, List.set_cons_succ])
    refine wpAnyH_take (i := 17) (oi := { dst := some 108, op := Op.binOp BinOp.lss 3 (Operand.tmp 103) (Operand.tmp 107) 3, type := 4, pos := "edge.go:78", after := #[{ on := 12, ground := Ground.data }, { on := 16, ground := Ground.data }, { on := 5, ground := Ground.guard }], guard := some (5, false) }) (v := ?v7014) rfl (by kernel_rfl) (by kernel_rfl) (by kernel_rfl) (fun _ _ _ h => h) (Or.inl ⟨by rfl, ?hy7014⟩) hHeld ?_
    case hy7014 => (intro w hSw; (try dsimp only at hSw); go_simp; (try with_reducible rfl))
    (try simp only [Act.put, List.setIfInBounds_toArray, List.set_cons_zero, List.set_cons_succ])
    refine wpAnyH_take (i := 18) (oi := { dst := some 109, op := Op.pick (Operand.tmp 96) (Operand.const (Value.bool true)) (Operand.tmp 108), type := 4, pos := "edge.go:78", after := #[{ on := 5, ground := Ground.data }, { on := 17, ground := Ground.data }], guard := none }) (v := ?v7015) rfl (by kernel_rfl) (by kernel_rfl) (by kernel_rfl) (fun _ _ _ h => h) (Or.inl ⟨by rfl, ?hy7015⟩) hHeld ?_
    case hy7015 => (intro w hSw; (try dsimp only at hSw); go_simp; (try with_reducible rfl))
    (try simp only [Act.put, List.setIfInBounds_toArray, List.set_cons_zero, List.set_cons_succ])
    refine wpAnyH_take (i := 19) (oi := { dst := some 90, op := Op.assign (Operand.tmp 109), type := 4, pos := "edge.go:78", after := #[{ on := 18, ground := Ground.data }, { on := 5, ground := Ground.chain }], guard := none }) (v := ?v7016) rfl (by kernel_rfl) (by kernel_rfl) (by kernel_rfl) (fun _ _ _ h => h) (Or.inl ⟨by rfl, ?hy7016⟩) hHeld ?_
    case hy7016 => (intro w hSw; (try dsimp only at hSw); go_simp; (try with_reducible rfl))
    (try simp only [Act.put, List.setIfInBounds_toArray, List.set_cons_zero, List.set_cons_succ])
    refine wpAnyH_done (by kernel_rfl) ?_ _
    rotate_left
    all_goals exact ⟨rfl, ⟨rfl, rfl, rfl, rfl, rfl, rfl, rfl, rfl⟩, by rw [HR.out]; rfl, by assumption⟩
def Hand12 (eb K1 K2 K3 K4 : Nat) (h : Int) (o : Option Quo) (w : World) : Exit → Act → World → Prop
  | .normal, A, w' => A.defers = [] ∧ HSl eb K1 K2 K3 K4 h A.tmps ∧ tm A.tmps 13 = .bool o.isSome ∧ Below w.heap.size w w' ∧ ∃ K5, tm A.tmps 12 = .pointer (some ⟨K5, 0, none⟩) ∧ w'.heap[K5]? = some (.cells (o.getD qz).cells.toArray 48 (0, 0)) ∧ w.heap.size ≤ K5
  | _, _, _ => False
set_option maxRecDepth 1000000 in
set_option maxHeartbeats 16000000 in
theorem hand12 {eb tb mb K1 K2 K3 K4 n : Nat} {M : QM} {h dl : Int} {a b : Lg} {no : List Nat} {v4 : Value} {T : Array Value} {w : World} (s : HSl eb K1 K2 K3 K4 h T) (v : HVar K1 K2 K3 K4 a b no w) (hno : EH.ok no) (ht : TabAt w tb mb M n)
    (hc : w.heap[eb]? = some (.cells #[.int .i64 dl, .pointer (some ⟨tb, 0, none⟩), v4] 77 (0, 0))) : (hndC 12).wp Tryd.prog (Hand12 eb K1 K2 K3 K4 h (M no) w) ⟨T, []⟩ w := by
  have e0 := s.t0
  have e4 := s.t4
  have e6 := s.t6
  have e7 := s.t7
  have e8 := s.t8
  have e10 := s.t10
  have e11 := s.t11
  rw [frameH s.size, e0, e4, e6, e7, e8, e10, e11]
  have d1 : w.cell? ⟨eb, 1, none⟩ = some (.pointer (some ⟨tb, 0, none⟩)) := gen_cell (j := 1) (row_range (L := [.int .i64 dl, .pointer (some ⟨tb, 0, none⟩), v4]) hc) rfl
  have r3 : w.rangeAt K3 0 (nums .u8 no) := row_range v.r3
  have un := Tryd.underlying27
  have hn3 := hid (show (Tryd.prog.info? 27).map (·.size) = some (nums .u8 no).length by rw [nums_length, hno.1]; exact infoH)
  have HT := hid ht
  have ZQ := zeroQ
  have hneQ := zQ_ne
  have G := fun wx (hx : TabAt wx tb mb M n) => hid (tget_walk tb mb n M no hno wx hx)
  have qok : ((M no).getD qz).ok := by
    cases hm : M no with
    | none => exact qz_ok
    | some q => exact ht.ok no q hm
  generalize M no = o at *
  obtain ⟨q0, hq0⟩ : ∃ q0, o.getD qz = q0 := ⟨_, rfl⟩
  obtain ⟨kn, hkn⟩ : ∃ kn, o.isSome = kn := ⟨_, rfl⟩
  rw [hq0] at qok
  unfold GetQ at G
  rw [hq0, hkn] at G
  have HQ0 := hid hq0
  have HKN := hid hkn
  have hqi := hid (infoQa qok)
  have hqz := hid (zQ_as qok)
  have hqo := hid (all_oneCell_toArray (Quo.one q0))
  clear v hc ht qok hq0 hkn
  clear s e0 e4 e6 e7 e8 e10 e11
  conv => arg 2; whnf
  refine wp_region_held_drew (S := fun w' => Below w.heap.size w w') (by kernel_rfl) ((Below.refl _ _).drew) (fun hHeld => ?_)
  try simp only [List.size_toArray, List.length_cons, List.length_nil, Nat.reduceAdd, Array.replicate_succ, Array.replicate_zero, List.push_toArray, List.nil_append, List.cons_append]
  refine wpAnyH_take (i := 0) (oi := { dst := some 111, op := Op.move (Operand.tmp 0), type := 34, pos := "edge.go:81", after := #[], guard := none }) (v := ?v8001) rfl (by kernel_rfl) (by kernel_rfl) (by kernel_rfl) (fun _ _ _ h => h) (Or.inl ⟨by rfl, ?hy8001⟩) hHeld ?_
  case hy8001 => (intro w hSw; (try dsimp only at hSw); go_simp; (try with_reducible rfl))
  (try simp only [Act.put, List.setIfInBounds_toArray, List.set_cons_zero, List.set_cons_succ])
  refine wpAnyH_take (i := 1) (oi := { dst := some 112, op := Op.nilCheck (Operand.tmp 111), type := 0, pos := "edge.go:81", after := #[{ on := 0, ground := Ground.data }], guard := none }) (v := ?v8002) rfl (by kernel_rfl) (by kernel_rfl) (by kernel_rfl) (fun _ _ _ h => h) (Or.inl ⟨by rfl, ?hy8002⟩) hHeld ?_
  case hy8002 => (intro w hSw; (try dsimp only at hSw); go_simp; (try with_reducible rfl))
  (try simp only [Act.put, List.setIfInBounds_toArray, List.set_cons_zero, List.set_cons_succ])
  refine wpAnyH_take (i := 2) (oi := { dst := some 113, op := Op.fieldAddr 77 (Operand.tmp 112) 1, type := 0, pos := "edge.go:81", after := #[{ on := 1, ground := Ground.data }], guard := none }) (v := ?v8003) rfl (by kernel_rfl) (by kernel_rfl) (by kernel_rfl) (fun _ _ _ h => h) (Or.inl ⟨by rfl, ?hy8003⟩) hHeld ?_
  case hy8003 => (intro w hSw; (try dsimp only at hSw); go_simp; (try with_reducible rfl))
  (try simp only [Act.put, List.setIfInBounds_toArray, List.set_cons_zero, List.set_cons_succ])
  refine wpAnyH_take (i := 3) (oi := { dst := some 114, op := Op.load 24 (Operand.tmp 113), type := 24, pos := "edge.go:81", after := #[{ on := 2, ground := Ground.data }], guard := none }) (v := (.pointer (some ⟨tb, 0, none⟩))) rfl (by kernel_rfl) (by kernel_rfl) (by kernel_rfl) (fun _ _ _ h => h) (Or.inl ⟨by rfl, fun w h => by have c9 := cell_keep h d1; go_simp⟩) hHeld ?_
  (try simp only [Act.put, List.setIfInBounds_toArray, List.set_cons_zero, List.set_cons_succ])
  refine' wpAnyH_take (i := 4) (oi := { dst := some 115, op := Op.load 27 (Operand.tmp 8), type := 27, pos := "edge.go:81", after := #[], guard := none }) (v := _) rfl (by kernel_rfl) (by kernel_rfl) (by kernel_rfl) (fun _ _ _ h => h) (yieldsIf_load_mid (by rfl) _ _ rfl K3 0 rfl (nums .u8 no) _ (fun _ h => range_keep h r3) un rfl hn3.out) hHeld ?_
  (try simp only [Act.put, List.setIfInBounds_toArray, List.set_cons_zero, List.set_cons_succ])
  refine wpAnyH_ready (rs := [5, 9]) (by kernel_rfl) (by simp) ?_
  refine AllReadyH.cons (o := { dst := some 116, op := Op.call { callee := Callee.value (Operand.func 14), args := #[Operand.tmp 114, Operand.tmp 115], argTypes := #[24, 27] }, type := 49, pos := "edge.go:81", after := #[{ on := 3, ground := Ground.data }, { on := 4, ground := Ground.data }], guard := none }) rfl (fun K hK => ?_) ?_
  go_simp; refine (G _ (HT.out.below hHeld)).out.mono ?_; rintro e wt ⟨rfl, bt⟩; have BT := hid bt; clear bt
  refine hK.out _ _ (by first | exact hHeld.trans (BT.out.mono hHeld.size) | exact BT.out) (fun hHeld => ?_)
  clear hK K
  (try simp only [List.setIfInBounds_toArray, List.set_cons_zero, List.set_cons_succ])
  refine wpAnyH_take (i := 6) (oi := { dst := some 110, op := Op.move (Operand.tmp 116), type := 49, pos := "edge.go:81", after := #[{ on := 5, ground := Ground.data }], guard := none }) (v := ?v8004) rfl (by kernel_rfl) (by kernel_rfl) (by kernel_rfl) (fun _ _ _ h => h) (Or.inl ⟨by rfl, ?hy8004⟩) hHeld ?_
  case hy8004 => (intro w hSw; (try dsimp only at hSw); go_simp; (try with_reducible rfl))
  (try simp only [Act.put, List.setIfInBounds_toArray, List.set_cons_zero, List.set_cons_succ])
  refine wpAnyH_take (i := 7) (oi := { dst := some 117, op := Op.extract (Operand.tmp 110) 0, type := 48, pos := "edge.go:81", after := #[{ on := 6, ground := Ground.data }], guard := none }) (v := ?v8005) rfl (by kernel_rfl) (by kernel_rfl) (by kernel_rfl) (fun _ _ _ h => h) (Or.inl ⟨by rfl, ?hy8005⟩) hHeld ?_
  case hy8005 => (intro w hSw; (try dsimp only at hSw); go_simp; (try with_reducible rfl))
  (try simp only [Act.put, List.setIfInBounds_toArray, List.set_cons_zero, List.set_cons_succ])
  refine wpAnyH_take (i := 8) (oi := { dst := some 118, op := Op.extract (Operand.tmp 110) 1, type := 4, pos := "edge.go:81", after := #[{ on := 6, ground := Ground.data }, { on := 10, ground := Ground.gcOnly Departure.lateStores }], guard := none }) (v := ?v8006) rfl (by kernel_rfl) (by kernel_rfl) (by kernel_rfl) (fun _ _ _ h => h) (Or.inl ⟨by rfl, ?hy8006⟩) hHeld ?_
  case hy8006 => (intro w hSw; (try dsimp only at hSw); go_simp; (try with_reducible rfl))
  (try simp only [Act.put, List.setIfInBounds_toArray, List.set_cons_zero, List.set_cons_succ])
  refine wpAnyH_ready (rs := [9]) (by kernel_rfl) (by simp) ?_
  refine AllReadyH.cons (o := { dst := some 12, op := Op.alloc 48, type := 0, pos := "edge.go:81", after := #[], guard := none }) rfl (fun K hK => ?_) ?_
  have hs9 := hHeld.size; go_simp; (first | refine newZ ?_ | refine newZd ?_); intro wa ha ba; have HA := hid ha; have BA := hid ba; have al := (Array.getElem?_eq_some_iff.1 ha).1; clear ha ba
  refine hK.out _ _ (by first | exact hHeld.trans (BA.out.mono hHeld.size) | exact BA.out) (fun hHeld => ?_)
  clear hK K
  (try simp only [List.setIfInBounds_toArray, List.set_cons_zero, List.set_cons_succ])
  refine wpAnyH_ready (rs := [10]) (by kernel_rfl) (by simp) ?_
  refine AllReadyH.cons (o := { dst := none, op := Op.store 48 (Operand.tmp 12) (Operand.tmp 117), type := 0, pos := "edge.go:81", after := #[{ on := 9, ground := Ground.data }, { on := 7, ground := Ground.data }, { on := 5, ground := Ground.chain }, { on := 0, ground := Ground.phase }, { on := 1, ground := Ground.phase }, { on := 2, ground := Ground.phase }, { on := 3, ground := Ground.phase }, { on := 4, ground := Ground.phase }, { on := 5, ground := Ground.phase }, { on := 6, ground := Ground.phase }, { on := 7, ground := Ground.phase }, { on := 8, ground := Ground.textOnly Departure.lateStores }, { on := 9, ground := Ground.phase }], guard := none }) rfl (fun K hK => ?_) ?_
  rw [if_pos (by rfl)]; refine wp_store_row _ _ _ rfl _ q0.cells.toArray rfl rfl _ _ (by first | exact HA.out | exact heap_keep HA.out BT.out) hqi.out hqz.out hqo.out ?_
  refine hK.out _ _ (below_setRow hHeld (by first | exact hs9 | omega) _) (fun hHeld => ?_)
  clear hK K
  (try simp only [List.setIfInBounds_toArray, List.set_cons_zero, List.set_cons_succ])
  refine wpAnyH_take (i := 11) (oi := { dst := some 13, op := Op.assign (Operand.tmp 118), type := 4, pos := "edge.go:81", after := #[{ on := 8, ground := Ground.data }, { on := 10, ground := Ground.chain }, { on := 0, ground := Ground.phase }, { on := 1, ground := Ground.phase }, { on := 2, ground := Ground.phase }, { on := 3, ground := Ground.phase }, { on := 4, ground := Ground.phase }, { on := 5, ground := Ground.phase }, { on := 6, ground := Ground.phase }, { on := 7, ground := Ground.phase }, { on := 8, ground := Ground.phase }, { on := 9, ground := Ground.phase }, { on := 10, ground := Ground.phase }], guard := none }) (v := ?v8007) rfl (by kernel_rfl) (by kernel_rfl) (by kernel_rfl) (fun _ _ _ h => h) (Or.inl ⟨by rfl, ?hy8007⟩) hHeld ?_
  case hy8007 => (intro w hSw; (try dsimp only at hSw); go_simp; (try with_reducible rfl))
  (try simp only [Act.put, List.setIfInBounds_toArray, List.set_cons_zero, List.set_cons_succ])
  refine wpAnyH_done (by kernel_rfl) ?_ _
  rotate_left
  exact AllReadyH.nil
  exact AllReadyH.nil
  refine AllReadyH.cons (o := { dst := some 12, op := Op.alloc 48, type := 0, pos := "edge.go:81", after := #[], guard := none }) rfl (fun K hK => ?_) ?_
  have hs9 := hHeld.size; go_simp; (first | refine newZ ?_ | refine newZd ?_); intro wa ha ba; have HA := hid ha; have BA := hid ba; have al := (Array.getElem?_eq_some_iff.1 ha).1; clear ha ba
  refine hK.out _ _ (by first | exact hHeld.trans (BA.out.mono hHeld.size) | exact BA.out) (fun hHeld => ?_)
  clear hK K
  (try simp only [List.setIfInBounds_toArray, List.set_cons_zero, List.set_cons_succ])
  refine wpAnyH_ready (rs := [5]) (by kernel_rfl) (by simp) ?_
  refine AllReadyH.cons (o := { dst := some 116, op := Op.call { callee := Callee.value (Operand.func 14), args := #[Operand.tmp 114, Operand.tmp 115], argTypes := #[24, 27] }, type := 49, pos := "edge.go:81", after := #[{ on := 3, ground := Ground.data }, { on := 4, ground := Ground.data }], guard := none }) rfl (fun K hK => ?_) ?_
  go_simp; refine (G _ (HT.out.below hHeld)).out.mono ?_; rintro e wt ⟨rfl, bt⟩; have BT := hid bt; clear bt
  refine hK.out _ _ (by first | exact hHeld.trans (BT.out.mono hHeld.size) | exact BT.out) (fun hHeld => ?_)
  clear hK K
  (try simp only [List.setIfInBounds_toArray, List.set_cons_zero, List.set_cons_succ])
  refine wpAnyH_take (i := 6) (oi := { dst := some 110, op := Op.move (Operand.tmp 116), type := 49, pos := "edge.go:81", after := #[{ on := 5, ground := Ground.data }], guard := none }) (v := ?v8008) rfl (by kernel_rfl) (by kernel_rfl) (by kernel_rfl) (fun _ _ _ h => h) (Or.inl ⟨by rfl, ?hy8008⟩) hHeld ?_
  case hy8008 => (intro w hSw; (try dsimp only at hSw); go_simp; (try with_reducible rfl))
  (try simp only [Act.put, List.setIfInBounds_toArray, List.set_cons_zero, List.set_cons_succ])
  refine wpAnyH_take (i := 7) (oi := { dst := some 117, op := Op.extract (Operand.tmp 110) 0, type := 48, pos := "edge.go:81", after := #[{ on := 6, ground := Ground.data }], guard := none }) (v := ?v8009) rfl (by kernel_rfl) (by kernel_rfl) (by kernel_rfl) (fun _ _ _ h => h) (Or.inl ⟨by rfl, ?hy8009⟩) hHeld ?_
  case hy8009 => (intro w hSw; (try dsimp only at hSw); go_simp; (try with_reducible rfl))
  (try simp only [Act.put, List.setIfInBounds_toArray, List.set_cons_zero, List.set_cons_succ])
  refine wpAnyH_take (i := 8) (oi := { dst := some 118, op := Op.extract (Operand.tmp 110) 1, type := 4, pos := "edge.go:81", after := #[{ on := 6, ground := Ground.data }, { on := 10, ground := Ground.gcOnly Departure.lateStores }], guard := none }) (v := ?v8010) rfl (by kernel_rfl) (by kernel_rfl) (by kernel_rfl) (fun _ _ _ h => h) (Or.inl ⟨by rfl, ?hy8010⟩) hHeld ?_
  case hy8010 => (intro w hSw; (try dsimp only at hSw); go_simp; (try with_reducible rfl))
  (try simp only [Act.put, List.setIfInBounds_toArray, List.set_cons_zero, List.set_cons_succ])
  refine wpAnyH_ready (rs := [10]) (by kernel_rfl) (by simp) ?_
  refine AllReadyH.cons (o := { dst := none, op := Op.store 48 (Operand.tmp 12) (Operand.tmp 117), type := 0, pos := "edge.go:81", after := #[{ on := 9, ground := Ground.data }, { on := 7, ground := Ground.data }, { on := 5, ground := Ground.chain }, { on := 0, ground := Ground.phase }, { on := 1, ground := Ground.phase }, { on := 2, ground := Ground.phase }, { on := 3, ground := Ground.phase }, { on := 4, ground := Ground.phase }, { on := 5, ground := Ground.phase }, { on := 6, ground := Ground.phase }, { on := 7, ground := Ground.phase }, { on := 8, ground := Ground.textOnly Departure.lateStores }, { on := 9, ground := Ground.phase }], guard := none }) rfl (fun K hK => ?_) ?_
  rw [if_pos (by rfl)]; refine wp_store_row _ _ _ rfl _ q0.cells.toArray rfl rfl _ _ (by first | exact HA.out | exact heap_keep HA.out BT.out) hqi.out hqz.out hqo.out ?_
  refine hK.out _ _ (below_setRow hHeld (by first | exact hs9 | omega) _) (fun hHeld => ?_)
  clear hK K
  (try simp only [List.setIfInBounds_toArray, List.set_cons_zero, List.set_cons_succ])
  refine wpAnyH_take (i := 11) (oi := { dst := some 13, op := Op.assign (Operand.tmp 118), type := 4, pos := "edge.go:81", after := #[{ on := 8, ground := Ground.data }, { on := 10, ground := Ground.chain }, { on := 0, ground := Ground.phase }, { on := 1, ground := Ground.phase }, { on := 2, ground := Ground.phase }, { on := 3, ground := Ground.phase }, { on := 4, ground := Ground.phase }, { on := 5, ground := Ground.phase }, { on := 6, ground := Ground.phase }, { on := 7, ground := Ground.phase }, { on := 8, ground := Ground.phase }, { on := 9, ground := Ground.phase }, { on := 10, ground := Ground.phase }], guard := none }) (v := ?v8011) rfl (by kernel_rfl) (by kernel_rfl) (by kernel_rfl) (fun _ _ _ h => h) (Or.inl ⟨by rfl, ?hy8011⟩) hHeld ?_
  case hy8011 => (intro w hSw; (try dsimp only at hSw); go_simp; (try with_reducible rfl))
  (try simp only [Act.put, List.setIfInBounds_toArray, List.set_cons_zero, List.set_cons_succ])
  refine wpAnyH_done (by kernel_rfl) ?_ _
  rotate_left
  exact AllReadyH.nil
  exact AllReadyH.nil
  exact AllReadyH.nil
  all_goals
    refine ⟨rfl, ⟨rfl, rfl, rfl, rfl, rfl, rfl, rfl, rfl⟩, by rw [HKN.out]; rfl, hHeld, _, rfl, ?_, by first | exact hs9 | omega⟩
    rw [HQ0.out]
    exact setRow_heap _ _ _ _ _ _ (by first | exact HA.out | exact heap_keep HA.out BT.out)
end Go.Proofs.YthccjefhlmngbaaDoor

/- Hand: regions 17, 20, 27. -/
namespace Go.Proofs.YthccjefhlmngbaaDoor
open Go.RowKit

def Hand17 (eb K1 K2 K3 K4 : Nat) (h : Int) (p12 p14 p15 : Value) (a b : Lg) (w : World) : Exit → Act → World → Prop
  | .normal, A, w' => A.defers = [] ∧ HSl eb K1 K2 K3 K4 h A.tmps ∧ tm A.tmps 12 = p12 ∧ tm A.tmps 14 = p14 ∧ tm A.tmps 15 = p15 ∧ Below w.heap.size w w' ∧ ∃ K6 K7, tm A.tmps 16 = .pointer (some ⟨K6, 0, none⟩) ∧ tm A.tmps 17 = .pointer (some ⟨K7, 0, none⟩) ∧
      w'.heap[K6]? = some (.cells a.o.cells.toArray 40 (0, 0)) ∧ w'.heap[K7]? = some (.cells b.o.cells.toArray 40 (0, 0)) ∧ w.heap.size ≤ K6 ∧ w.heap.size ≤ K7 ∧ K6 ≠ K7
  | _, _, _ => False
set_option maxRecDepth 1000000 in
set_option maxHeartbeats 16000000 in
theorem hand17 {eb K1 K2 K3 K4 : Nat} {h : Int} {a b : Lg} {no : List Nat} {p12 p14 p15 : Value} {T : Array Value} {w : World} (s : HSl eb K1 K2 K3 K4 h T) (v : HVar K1 K2 K3 K4 a b no w) (ha : a.ok) (hb : b.ok) (e12 : tm T 12 = p12) (e14 : tm T 14 = p14) (e15 : tm T 15 = p15) : (hndC 17).wp Tryd.prog (Hand17 eb K1 K2 K3 K4 h p12 p14 p15 a b w) ⟨T, []⟩ w := by
  have e0 := s.t0
  have e4 := s.t4
  have e6 := s.t6
  have e7 := s.t7
  have e8 := s.t8
  have e10 := s.t10
  have e11 := s.t11
  rw [frameH s.size, e0, e4, e6, e7, e8, e10, e11, e12, e14, e15]
  have ra : w.rangeAt K1 1 a.o.cells := by have := a.hasO.rng (row_range v.r1); exact this
  have rb : w.rangeAt K2 1 b.o.cells := by have := b.hasO.rng (row_range v.r2); exact this
  have un := Tryd.underlying40
  have hia := hid (infoOl ha.o)
  have hib := hid (infoOl hb.o)
  have aia := hid (infoOa ha.o)
  have aib := hid (infoOa hb.o)
  have zia := hid (zO_as ha.o)
  have zib := hid (zO_as hb.o)
  have oia := hid (all_oneCell_toArray (Ofr.one a.o))
  have oib := hid (all_oneCell_toArray (Ofr.one b.o))
  have ZO := zeroO
  have hneO := zO_ne
  clear v ha hb e12 e14 e15
  clear s e0 e4 e6 e7 e8 e10 e11
  conv => arg 2; whnf
  refine wp_region_held_drew (S := fun w' => Below w.heap.size w w') (by kernel_rfl) ((Below.refl _ _).drew) (fun hHeld => ?_)
  try simp only [List.size_toArray, List.length_cons, List.length_nil, Nat.reduceAdd, Array.replicate_succ, Array.replicate_zero, List.push_toArray, List.nil_append, List.cons_append]
  refine wpAnyH_take (i := 0) (oi := { dst := some 130, op := Op.fieldAddr 42 (Operand.tmp 6) 1, type := 0, pos := "edge.go:87", after := #[], guard := none }) (v := ?v9001) rfl (by kernel_rfl) (by kernel_rfl) (by kernel_rfl) (fun _ _ _ h => h) (Or.inl ⟨by rfl, ?hy9001⟩) hHeld ?_
  case hy9001 => (intro w hSw; (try dsimp only at hSw); go_simp; (try with_reducible rfl))
  (try simp only [Act.put, List.setIfInBounds_toArray, List.set_cons_zero, List.set_cons_succ])
  refine' wpAnyH_take (i := 1) (oi := { dst := some 131, op := Op.load 40 (Operand.tmp 130), type := 40, pos := "edge.go:87", after := #[{ on := 0, ground := Ground.data }], guard := none }) (v := _) rfl (by kernel_rfl) (by kernel_rfl) (by kernel_rfl) (fun _ _ _ h => h) (yieldsIf_load_mid (by rfl) _ _ rfl K1 1 rfl a.o.cells _ (fun _ h => range_keep h ra) un rfl hia.out) hHeld ?_
  (try simp only [Act.put, List.setIfInBounds_toArray, List.set_cons_zero, List.set_cons_succ])
  refine wpAnyH_take (i := 2) (oi := { dst := some 132, op := Op.fieldAddr 42 (Operand.tmp 7) 1, type := 0, pos := "edge.go:87", after := #[{ on := 6, ground := Ground.gcOnly Departure.lateStores }], guard := none }) (v := ?v9002) rfl (by kernel_rfl) (by kernel_rfl) (by kernel_rfl) (fun _ _ _ h => h) (Or.inl ⟨by rfl, ?hy9002⟩) hHeld ?_
  case hy9002 => (intro w hSw; (try dsimp only at hSw); go_simp; (try with_reducible rfl))
  (try simp only [Act.put, List.setIfInBounds_toArray, List.set_cons_zero, List.set_cons_succ])
  refine' wpAnyH_take (i := 3) (oi := { dst := some 133, op := Op.load 40 (Operand.tmp 132), type := 40, pos := "edge.go:87", after := #[{ on := 2, ground := Ground.data }, { on := 6, ground := Ground.gcOnly Departure.lateStores }], guard := none }) (v := _) rfl (by kernel_rfl) (by kernel_rfl) (by kernel_rfl) (fun _ _ _ h => h) (yieldsIf_load_mid (by rfl) _ _ rfl K2 1 rfl b.o.cells _ (fun _ h => range_keep h rb) un rfl hib.out) hHeld ?_
  (try simp only [Act.put, List.setIfInBounds_toArray, List.set_cons_zero, List.set_cons_succ])
  refine wpAnyH_ready (rs := [4, 5]) (by kernel_rfl) (by simp) ?_
  refine AllReadyH.cons (o := { dst := some 16, op := Op.alloc 40, type := 0, pos := "edge.go:87", after := #[], guard := none }) rfl (fun K hK => ?_) ?_
  have hs4 := hHeld.size; go_simp; (first | refine newZ ?_ | refine newZd ?_); intro wa1 ha1 ba1; have Ha1 := hid ha1; have Ba1 := hid ba1; have la1 := (Array.getElem?_eq_some_iff.1 ha1).1; clear ha1 ba1
  refine hK.out _ _ (by first | exact hHeld.trans (Ba1.out.mono hHeld.size) | exact Ba1.out) (fun hHeld => ?_)
  clear hK K
  (try simp only [List.setIfInBounds_toArray, List.set_cons_zero, List.set_cons_succ])
  refine wpAnyH_ready (rs := [5]) (by kernel_rfl) (by simp) ?_
  refine AllReadyH.cons (o := { dst := some 17, op := Op.alloc 40, type := 0, pos := "edge.go:87", after := #[], guard := none }) rfl (fun K hK => ?_) ?_
  have hs5 := hHeld.size; go_simp; (first | refine newZ ?_ | refine newZd ?_); intro wb1 hb1 bb1; have Hb1 := hid hb1; have Bb1 := hid bb1; have lb1 := (Array.getElem?_eq_some_iff.1 hb1).1; clear hb1 bb1
  refine hK.out _ _ (by first | exact hHeld.trans (Bb1.out.mono hHeld.size) | exact Bb1.out) (fun hHeld => ?_)
  clear hK K
  (try simp only [List.setIfInBounds_toArray, List.set_cons_zero, List.set_cons_succ])
  refine wpAnyH_ready (rs := [6]) (by kernel_rfl) (by simp) ?_
  refine AllReadyH.cons (o := { dst := none, op := Op.store 40 (Operand.tmp 16) (Operand.tmp 131), type := 0, pos := "edge.go:87", after := #[{ on := 4, ground := Ground.data }, { on := 1, ground := Ground.data }, { on := 0, ground := Ground.phase }, { on := 1, ground := Ground.phase }, { on := 2, ground := Ground.textOnly Departure.lateStores }, { on := 3, ground := Ground.textOnly Departure.lateStores }, { on := 4, ground := Ground.phase }, { on := 5, ground := Ground.phase }], guard := none }) rfl (fun K hK => ?_) ?_
  rw [if_pos (by rfl)]; refine wp_store_row _ _ _ rfl _ a.o.cells.toArray rfl rfl _ _ (by first | exact Ha1.out | exact heap_keep Ha1.out Bb1.out) aia.out zia.out oia.out ?_
  refine hK.out _ _ (below_setRow hHeld (by omega) _) (fun hHeld => ?_)
  clear hK K
  (try simp only [List.setIfInBounds_toArray, List.set_cons_zero, List.set_cons_succ])
  refine wpAnyH_ready (rs := [7]) (by kernel_rfl) (by simp) ?_
  refine AllReadyH.cons (o := { dst := none, op := Op.store 40 (Operand.tmp 17) (Operand.tmp 133), type := 0, pos := "edge.go:87", after := #[{ on := 5, ground := Ground.data }, { on := 3, ground := Ground.data }, { on := 6, ground := Ground.chain }, { on := 0, ground := Ground.phase }, { on := 1, ground := Ground.phase }, { on := 2, ground := Ground.phase }, { on := 3, ground := Ground.phase }, { on := 4, ground := Ground.phase }, { on := 5, ground := Ground.phase }, { on := 6, ground := Ground.phase }], guard := none }) rfl (fun K hK => ?_) ?_
  rw [if_pos (by rfl)]; refine wp_store_row _ _ _ rfl _ b.o.cells.toArray rfl rfl _ _ (by rw [setRow_other _ _ _ _ (by omega)]; first | exact Hb1.out | exact heap_keep Hb1.out Ba1.out) aib.out zib.out oib.out ?_
  refine hK.out _ _ (below_setRow hHeld (by omega) _) (fun hHeld => ?_)
  clear hK K
  (try simp only [List.setIfInBounds_toArray, List.set_cons_zero, List.set_cons_succ])
  refine wpAnyH_done (by kernel_rfl) ?_ _
  rotate_left
  exact AllReadyH.nil
  exact AllReadyH.nil
  exact AllReadyH.nil
  refine AllReadyH.cons (o := { dst := some 17, op := Op.alloc 40, type := 0, pos := "edge.go:87", after := #[], guard := none }) rfl (fun K hK => ?_) ?_
  have hs5 := hHeld.size; go_simp; (first | refine newZ ?_ | refine newZd ?_); intro wb1 hb1 bb1; have Hb1 := hid hb1; have Bb1 := hid bb1; have lb1 := (Array.getElem?_eq_some_iff.1 hb1).1; clear hb1 bb1
  refine hK.out _ _ (by first | exact hHeld.trans (Bb1.out.mono hHeld.size) | exact Bb1.out) (fun hHeld => ?_)
  clear hK K
  (try simp only [List.setIfInBounds_toArray, List.set_cons_zero, List.set_cons_succ])
  refine wpAnyH_ready (rs := [4]) (by kernel_rfl) (by simp) ?_
  refine AllReadyH.cons (o := { dst := some 16, op := Op.alloc 40, type := 0, pos := "edge.go:87", after := #[], guard := none }) rfl (fun K hK => ?_) ?_
  have hs4 := hHeld.size; go_simp; (first | refine newZ ?_ | refine newZd ?_); intro wa1 ha1 ba1; have Ha1 := hid ha1; have Ba1 := hid ba1; have la1 := (Array.getElem?_eq_some_iff.1 ha1).1; clear ha1 ba1
  refine hK.out _ _ (by first | exact hHeld.trans (Ba1.out.mono hHeld.size) | exact Ba1.out) (fun hHeld => ?_)
  clear hK K
  (try simp only [List.setIfInBounds_toArray, List.set_cons_zero, List.set_cons_succ])
  refine wpAnyH_ready (rs := [6]) (by kernel_rfl) (by simp) ?_
  refine AllReadyH.cons (o := { dst := none, op := Op.store 40 (Operand.tmp 16) (Operand.tmp 131), type := 0, pos := "edge.go:87", after := #[{ on := 4, ground := Ground.data }, { on := 1, ground := Ground.data }, { on := 0, ground := Ground.phase }, { on := 1, ground := Ground.phase }, { on := 2, ground := Ground.textOnly Departure.lateStores }, { on := 3, ground := Ground.textOnly Departure.lateStores }, { on := 4, ground := Ground.phase }, { on := 5, ground := Ground.phase }], guard := none }) rfl (fun K hK => ?_) ?_
  rw [if_pos (by rfl)]; refine wp_store_row _ _ _ rfl _ a.o.cells.toArray rfl rfl _ _ (by first | exact Ha1.out | exact heap_keep Ha1.out Bb1.out) aia.out zia.out oia.out ?_
  refine hK.out _ _ (below_setRow hHeld (by omega) _) (fun hHeld => ?_)
  clear hK K
  (try simp only [List.setIfInBounds_toArray, List.set_cons_zero, List.set_cons_succ])
  refine wpAnyH_ready (rs := [7]) (by kernel_rfl) (by simp) ?_
  refine AllReadyH.cons (o := { dst := none, op := Op.store 40 (Operand.tmp 17) (Operand.tmp 133), type := 0, pos := "edge.go:87", after := #[{ on := 5, ground := Ground.data }, { on := 3, ground := Ground.data }, { on := 6, ground := Ground.chain }, { on := 0, ground := Ground.phase }, { on := 1, ground := Ground.phase }, { on := 2, ground := Ground.phase }, { on := 3, ground := Ground.phase }, { on := 4, ground := Ground.phase }, { on := 5, ground := Ground.phase }, { on := 6, ground := Ground.phase }], guard := none }) rfl (fun K hK => ?_) ?_
  rw [if_pos (by rfl)]; refine wp_store_row _ _ _ rfl _ b.o.cells.toArray rfl rfl _ _ (by rw [setRow_other _ _ _ _ (by omega)]; first | exact Hb1.out | exact heap_keep Hb1.out Ba1.out) aib.out zib.out oib.out ?_
  refine hK.out _ _ (below_setRow hHeld (by omega) _) (fun hHeld => ?_)
  clear hK K
  (try simp only [List.setIfInBounds_toArray, List.set_cons_zero, List.set_cons_succ])
  refine wpAnyH_done (by kernel_rfl) ?_ _
  rotate_left
  exact AllReadyH.nil
  exact AllReadyH.nil
  exact AllReadyH.nil
  exact AllReadyH.nil
  all_goals
    refine ⟨rfl, ⟨rfl, rfl, rfl, rfl, rfl, rfl, rfl, rfl⟩, rfl, rfl, rfl, hHeld, _, _, rfl, rfl, ?_, ?_, ?_, ?_, ?_⟩
    · rw [setRow_other _ _ _ _ (by omega)]; exact setRow_heap _ _ _ _ _ _ (by first | exact Ha1.out | exact heap_keep Ha1.out Bb1.out)
    · exact setRow_heap _ _ _ _ _ _ (by rw [setRow_other _ _ _ _ (by omega)]; first | exact Hb1.out | exact heap_keep Hb1.out Ba1.out)
    · omega
    · omega
    · omega
end Go.Proofs.YthccjefhlmngbaaDoor

/- Hand: regions 20, 27. -/
namespace Go.Proofs.YthccjefhlmngbaaDoor
open Go.RowKit

def Hand20 (eb K1 K2 K3 K4 K6 K7 : Nat) (h : Int) (p12 p14 p15 : Value) (a b : Lg) (w : World) : Exit → Act → World → Prop
  | .normal, A, w' => A.defers = [] ∧ HSl eb K1 K2 K3 K4 h A.tmps ∧ tm A.tmps 12 = p12 ∧ tm A.tmps 14 = p14 ∧ tm A.tmps 15 = p15 ∧ tm A.tmps 16 = .pointer (some ⟨K6, 0, none⟩) ∧ tm A.tmps 17 = .pointer (some ⟨K7, 0, none⟩) ∧ Keep (fun i => i = K6 ∨ i = K7) w w' ∧
      w'.heap[K6]? = some (.cells b.o.cells.toArray 40 (0, 0)) ∧ w'.heap[K7]? = some (.cells a.o.cells.toArray 40 (0, 0))
  | _, _, _ => False
set_option maxRecDepth 1000000 in
set_option maxHeartbeats 16000000 in
theorem hand20 {eb K1 K2 K3 K4 K6 K7 : Nat} {h : Int} {a b : Lg} {no : List Nat} {p12 p14 p15 : Value} {T : Array Value} {w : World} (s : HSl eb K1 K2 K3 K4 h T) (v : HVar K1 K2 K3 K4 a b no w) (ha : a.ok) (hb : b.ok) (e12 : tm T 12 = p12) (e14 : tm T 14 = p14) (e15 : tm T 15 = p15) (e16 : tm T 16 = .pointer (some ⟨K6, 0, none⟩)) (e17 : tm T 17 = .pointer (some ⟨K7, 0, none⟩))
    (h6 : w.heap[K6]? = some (.cells a.o.cells.toArray 40 (0, 0))) (h7 : w.heap[K7]? = some (.cells b.o.cells.toArray 40 (0, 0))) (hne : K6 ≠ K7) (n1 : ¬ (K1 = K6 ∨ K1 = K7)) (n2 : ¬ (K2 = K6 ∨ K2 = K7)) :
    (hndC 20).wp Tryd.prog (Hand20 eb K1 K2 K3 K4 K6 K7 h p12 p14 p15 a b w) ⟨T, []⟩ w := by
  have e0 := s.t0
  have e4 := s.t4
  have e6 := s.t6
  have e7 := s.t7
  have e8 := s.t8
  have e10 := s.t10
  have e11 := s.t11
  rw [frameH s.size, e0, e4, e6, e7, e8, e10, e11, e12, e14, e15, e16, e17]
  have ra : w.rangeAt K1 1 a.o.cells := by have := a.hasO.rng (row_range v.r1); exact this
  have rb : w.rangeAt K2 1 b.o.cells := by have := b.hasO.rng (row_range v.r2); exact this
  have un := Tryd.underlying40
  have hia := hid (infoOl ha.o)
  have hib := hid (infoOl hb.o)
  have aia := hid (infoOa ha.o)
  have aib := hid (infoOa hb.o)
  have sab := hid (show a.o.cells.toArray.size = b.o.cells.toArray.size by rw [List.size_toArray, List.size_toArray, Ofr.len ha.o, Ofr.len hb.o])
  have oia := hid (all_oneCell_toArray (Ofr.one a.o))
  have oib := hid (all_oneCell_toArray (Ofr.one b.o))
  have H6 := hid h6
  have H7 := hid h7
  have N1 := hid n1
  have N2 := hid n2
  clear v ha hb e12 e14 e15 e16 e17 h6 h7 n1 n2
  clear s e0 e4 e6 e7 e8 e10 e11
  conv => arg 2; whnf
  refine wp_region_held_drew (S := fun w' => Keep (fun i => i = K6 ∨ i = K7) w w') (by kernel_rfl) (Keep.of (Below.refl _ _).drew) (fun hHeld => ?_)
  try simp only [List.size_toArray, List.length_cons, List.length_nil, Nat.reduceAdd, Array.replicate_succ, Array.replicate_zero, List.push_toArray, List.nil_append, List.cons_append]
  refine wpAnyH_take (i := 0) (oi := { dst := some 144, op := Op.fieldAddr 42 (Operand.tmp 7) 1, type := 0, pos := "edge.go:90", after := #[], guard := none }) (v := ?v10001) rfl (by kernel_rfl) (by kernel_rfl) (by kernel_rfl) (fun _ _ _ h => h) (Or.inl ⟨by rfl, ?hy10001⟩) hHeld ?_
  case hy10001 => (intro w hSw; (try dsimp only at hSw); go_simp; (try with_reducible rfl))
  (try simp only [Act.put, List.setIfInBounds_toArray, List.set_cons_zero, List.set_cons_succ])
  refine' wpAnyH_take (i := 1) (oi := { dst := some 145, op := Op.load 40 (Operand.tmp 144), type := 40, pos := "edge.go:90", after := #[{ on := 0, ground := Ground.data }], guard := none }) (v := _) rfl (by kernel_rfl) (by kernel_rfl) (by kernel_rfl) (fun _ _ _ h => h) (yieldsIf_load_mid (by rfl) _ _ rfl K2 1 rfl b.o.cells _ (fun _ h => h.range rb N2.out) un rfl hib.out) hHeld ?_
  (try simp only [Act.put, List.setIfInBounds_toArray, List.set_cons_zero, List.set_cons_succ])
  refine wpAnyH_take (i := 2) (oi := { dst := some 146, op := Op.fieldAddr 42 (Operand.tmp 6) 1, type := 0, pos := "edge.go:90", after := #[{ on := 4, ground := Ground.gcOnly Departure.lateStores }], guard := none }) (v := ?v10002) rfl (by kernel_rfl) (by kernel_rfl) (by kernel_rfl) (fun _ _ _ h => h) (Or.inl ⟨by rfl, ?hy10002⟩) hHeld ?_
  case hy10002 => (intro w hSw; (try dsimp only at hSw); go_simp; (try with_reducible rfl))
  (try simp only [Act.put, List.setIfInBounds_toArray, List.set_cons_zero, List.set_cons_succ])
  refine' wpAnyH_take (i := 3) (oi := { dst := some 147, op := Op.load 40 (Operand.tmp 146), type := 40, pos := "edge.go:90", after := #[{ on := 2, ground := Ground.data }, { on := 4, ground := Ground.gcOnly Departure.lateStores }], guard := none }) (v := _) rfl (by kernel_rfl) (by kernel_rfl) (by kernel_rfl) (fun _ _ _ h => h) (yieldsIf_load_mid (by rfl) _ _ rfl K1 1 rfl a.o.cells _ (fun _ h => h.range ra N1.out) un rfl hia.out) hHeld ?_
  (try simp only [Act.put, List.setIfInBounds_toArray, List.set_cons_zero, List.set_cons_succ])
  refine wpAnyH_ready (rs := [4]) (by kernel_rfl) (by simp) ?_
  refine AllReadyH.cons (o := { dst := none, op := Op.store 40 (Operand.tmp 16) (Operand.tmp 145), type := 0, pos := "edge.go:90", after := #[{ on := 1, ground := Ground.data }, { on := 0, ground := Ground.phase }, { on := 1, ground := Ground.phase }, { on := 2, ground := Ground.textOnly Departure.lateStores }, { on := 3, ground := Ground.textOnly Departure.lateStores }], guard := none }) rfl (fun K hK => ?_) ?_
  rw [if_pos (by rfl)]; refine wp_store_row _ _ _ rfl K6 b.o.cells.toArray rfl rfl _ _ H6.out aib.out sab.out oib.out ?_
  refine hK.out _ _ (hHeld.trans (Keep.far (far_row _ _ _) (.inl rfl))) (fun hHeld => ?_)
  clear hK K
  (try simp only [List.setIfInBounds_toArray, List.set_cons_zero, List.set_cons_succ])
  refine wpAnyH_ready (rs := [5]) (by kernel_rfl) (by simp) ?_
  refine AllReadyH.cons (o := { dst := none, op := Op.store 40 (Operand.tmp 17) (Operand.tmp 147), type := 0, pos := "edge.go:90", after := #[{ on := 3, ground := Ground.data }, { on := 4, ground := Ground.chain }, { on := 0, ground := Ground.phase }, { on := 1, ground := Ground.phase }, { on := 2, ground := Ground.phase }, { on := 3, ground := Ground.phase }, { on := 4, ground := Ground.phase }], guard := none }) rfl (fun K hK => ?_) ?_
  rw [if_pos (by rfl)]; refine wp_store_row _ _ _ rfl K7 a.o.cells.toArray rfl rfl _ _ (by rw [setRow_other _ _ _ _ (by omega)]; exact H7.out) aia.out sab.out.symm oia.out ?_
  refine hK.out _ _ (hHeld.trans (Keep.far (far_row _ _ _) (.inr rfl))) (fun hHeld => ?_)
  clear hK K
  (try simp only [List.setIfInBounds_toArray, List.set_cons_zero, List.set_cons_succ])
  refine wpAnyH_done (by kernel_rfl) ?_ _
  rotate_left
  exact AllReadyH.nil
  exact AllReadyH.nil
  all_goals
    refine ⟨rfl, ⟨rfl, rfl, rfl, rfl, rfl, rfl, rfl, rfl⟩, rfl, rfl, rfl, rfl, rfl, hHeld, ?_, ?_⟩
    · rw [setRow_other _ _ _ _ (by omega)]; exact setRow_heap _ _ _ _ _ _ H6.out
    · exact setRow_heap _ _ _ _ _ _ (by rw [setRow_other _ _ _ _ (by omega)]; exact H7.out)
theorem tyFs : SliceTy Tryd.prog 51 62 204 288 (.agg zF) := .mk' Tryd.underlying51 (by kernel_rfl) (by show zF.size = 204; exact zF_size) (by decide)
theorem BLw (w wl : World) (h : Below w.drew.heap.size w.drew wl) : Below w.heap.size w wl := (Below.refl _ _).drew.trans h
def Hand27 (eb tb : Nat) (dl : Int) (B K1 K2 K3 K4 : Nat) (h : Int) (v : Value) (L : List Fw) (w : World) : Exit → Act → World → Prop
  | .normal, A, w' => A.defers = [] ∧ HSl eb K1 K2 K3 K4 h A.tmps ∧ Keep (fun i => i = eb ∨ v.ownBlock = some i) w w' ∧ ∃ v', EdgeAt w' eb tb dl B v' L ∧ Newer w v v'
  | _, _, _ => False
set_option maxRecDepth 1000000 in
set_option maxHeartbeats 16000000 in
theorem hand27 {eb tb B K1 K2 K3 K4 KF : Nat} {h dl : Int} {v : Value} {L : List Fw} {f : Fw} {T : Array Value} {w : World} (s : HSl eb K1 K2 K3 K4 h T) (e14 : tm T 14 = .pointer (some ⟨KF, 0, none⟩)) (hE : EdgeAt w eb tb dl B v L) (hl : L.length < 256) (hB : B ≤ w.heap.size)
    (hf : w.heap[KF]? = some (.cells f.cells.toArray 62 (0, 0))) (fok : f.ok) : (hndC 27).wp Tryd.prog (Hand27 eb tb dl B K1 K2 K3 K4 h v (L ++ [f]) w) ⟨T, []⟩ w := by
  have e0 := s.t0
  have e4 := s.t4
  have e6 := s.t6
  have e7 := s.t7
  have e8 := s.t8
  have e10 := s.t10
  have e11 := s.t11
  rw [frameH s.size, e0, e4, e6, e7, e8, e10, e11, e14]
  have d2 : w.cell? ⟨eb, 2, none⟩ = some v := gen_cell (j := 2) (row_range (L := [.int .i64 dl, .pointer (some ⟨tb, 0, none⟩), v]) hE.cell) rfl
  have rf : w.rangeAt KF 0 f.cells := row_range hf
  have un := Tryd.underlying62
  have unS := Tryd.underlying51
  have hil := hid (infoFl fok)
  have hzi : ((Tryd.prog.info? 62).bind (·.zero)).isSome = true := by kernel_rfl
  have hcs : f.cells.toArray.size = 204 := by rw [List.size_toArray]; exact Fw.len fok
  have HE := hid hE
  have HB := hid hB
  have eblt := hid (Array.getElem?_eq_some_iff.1 hE.cell).1
  have FOK := hid fok
  have HL := hid hl
  clear e14 hE hf fok hB hl
  clear s e0 e4 e6 e7 e8 e10 e11
  conv => arg 2; whnf
  refine wp_region_held_drew (S := fun _ => True) (by kernel_rfl) (trivial) (fun hHeld => ?_)
  try simp only [List.size_toArray, List.length_cons, List.length_nil, Nat.reduceAdd, Array.replicate_succ, Array.replicate_zero, List.push_toArray, List.nil_append, List.cons_append]
  refine wpAnyH_take (i := 0) (oi := { dst := some 167, op := Op.move (Operand.tmp 0), type := 34, pos := "edge.go:99", after := #[], guard := none }) (v := ?v11001) rfl (by kernel_rfl) (by kernel_rfl) (by kernel_rfl) (fun _ _ _ h => h) (Or.inl ⟨by rfl, ?hy11001⟩) hHeld ?_
  case hy11001 => (intro w hSw; (try dsimp only at hSw); go_simp; (try with_reducible rfl))
  (try simp only [Act.put, List.setIfInBounds_toArray, List.set_cons_zero, List.set_cons_succ])
  refine wpAnyH_take (i := 1) (oi := { dst := some 168, op := Op.move (Operand.tmp 0), type := 34, pos := "edge.go:99", after := #[], guard := none }) (v := ?v11002) rfl (by kernel_rfl) (by kernel_rfl) (by kernel_rfl) (fun _ _ _ h => h) (Or.inl ⟨by rfl, ?hy11002⟩) hHeld ?_
  case hy11002 => (intro w hSw; (try dsimp only at hSw); go_simp; (try with_reducible rfl))
  (try simp only [Act.put, List.setIfInBounds_toArray, List.set_cons_zero, List.set_cons_succ])
  refine wpAnyH_take (i := 2) (oi := { dst := some 169, op := Op.nilCheck (Operand.tmp 168), type := 0, pos := "edge.go:99", after := #[{ on := 1, ground := Ground.data }], guard := none }) (v := ?v11003) rfl (by kernel_rfl) (by kernel_rfl) (by kernel_rfl) (fun _ _ _ h => h) (Or.inl ⟨by rfl, ?hy11003⟩) hHeld ?_
  case hy11003 => (intro w hSw; (try dsimp only at hSw); go_simp; (try with_reducible rfl))
  (try simp only [Act.put, List.setIfInBounds_toArray, List.set_cons_zero, List.set_cons_succ])
  refine wpAnyH_take (i := 3) (oi := { dst := some 170, op := Op.fieldAddr 77 (Operand.tmp 169) 2, type := 0, pos := "edge.go:99", after := #[{ on := 2, ground := Ground.data }], guard := none }) (v := ?v11004) rfl (by kernel_rfl) (by kernel_rfl) (by kernel_rfl) (fun _ _ _ h => h) (Or.inl ⟨by rfl, ?hy11004⟩) hHeld ?_
  case hy11004 => (intro w hSw; (try dsimp only at hSw); go_simp; (try with_reducible rfl))
  (try simp only [Act.put, List.setIfInBounds_toArray, List.set_cons_zero, List.set_cons_succ])
  refine wpAnyH_ready (rs := [4, 5]) (by kernel_rfl) (by simp) ?_
  refine AllReadyH.cons (o := { dst := some 171, op := Op.load 51 (Operand.tmp 170), type := 51, pos := "edge.go:99", after := #[{ on := 3, ground := Ground.data }], guard := none }) rfl (fun K hK => ?_) ?_
  have c0 : w.drew.cell? ⟨eb, 2, none⟩ = some v := d2; first | (have c9 := cell_keep BL.out c0; go_simp) | go_simp
  refine hK.out _ _ (trivial) (fun hHeld => ?_)
  clear hK K
  (try simp only [List.setIfInBounds_toArray, List.set_cons_zero, List.set_cons_succ])
  refine wpAnyH_ready (rs := [5]) (by kernel_rfl) (by simp) ?_
  refine AllReadyH.cons (o := { dst := some 172, op := Op.load 62 (Operand.tmp 14), type := 62, pos := "edge.go:99", after := #[], guard := none }) rfl (fun K hK => ?_) ?_
  rw [if_pos (by rfl)]; refine wp_load_mid _ _ rfl KF 0 rfl f.cells _ (range_keep (Below.refl _ _).drew rf) un rfl hil.out ?_
  refine hK.out _ _ (trivial) (fun hHeld => ?_)
  clear hK K
  (try simp only [List.setIfInBounds_toArray, List.set_cons_zero, List.set_cons_succ])
  refine wpAnyH_ready (rs := [6]) (by kernel_rfl) (by simp) ?_
  refine AllReadyH.cons (o := { dst := some 173, op := Op.buildSlice 51 1 #[(0, Operand.tmp 172)], type := 51, pos := "edge.go:99", after := #[{ on := 5, ground := Ground.data }], guard := none }) rfl (fun K hK => ?_) ?_
  rw [if_pos (by rfl)]; refine wp_lit1 _ _ _ rfl rfl unS infoF hzi hcs (by decide) (by decide) ?_; (first | refine newZ ?_ | refine newZd ?_); intro wl hl bl; have HLt := hid hl; have BL := hid bl; clear hl bl
  refine hK.out _ _ (trivial) (fun hHeld => ?_)
  clear hK K
  (try simp only [List.setIfInBounds_toArray, List.set_cons_zero, List.set_cons_succ])
  refine wpAnyH_ready (rs := [7]) (by kernel_rfl) (by simp) ?_
  refine AllReadyH.cons (o := { dst := some 174, op := Op.call { callee := Callee.builtin Builtin.append, args := #[Operand.tmp 171, Operand.tmp 173], argTypes := #[51, 51] }, type := 51, pos := "edge.go:99", after := #[{ on := 4, ground := Ground.data }, { on := 6, ground := Ground.data }], guard := none }) rfl (fun K hK => ?_) ?_
  rw [if_pos (by rfl)]; refine wp_pushK _ _ _ rfl tyFs B (own_below HE.out.own (BLw w wl BL.out)) rfl rfl HLt.out (Fw.len FOK.out) (Fw.one f) (by have := HL.out; omega) (by decide) (Nat.le_trans HB.out (BLw w wl BL.out).size) ?_; intro v5 w5 own5 k5 nb5; obtain ⟨a5, c5, rfl, _⟩ := Rd.of_owns own5; have O5 := hid own5; have K5 := hid k5; have N5 := hid nb5; clear own5 k5 nb5
  refine hK.out _ _ (trivial) (fun hHeld => ?_)
  clear hK K
  (try simp only [List.setIfInBounds_toArray, List.set_cons_zero, List.set_cons_succ])
  refine wpAnyH_take (i := 8) (oi := { dst := some 175, op := Op.nilCheck (Operand.tmp 167), type := 0, pos := "edge.go:99", after := #[{ on := 0, ground := Ground.data }, { on := 0, ground := Ground.phase }, { on := 1, ground := Ground.phase }, { on := 2, ground := Ground.phase }, { on := 3, ground := Ground.phase }, { on := 4, ground := Ground.phase }, { on := 5, ground := Ground.phase }, { on := 6, ground := Ground.phase }, { on := 7, ground := Ground.phase }], guard := none }) (v := ?v11005) rfl (by kernel_rfl) (by kernel_rfl) (by kernel_rfl) (fun _ _ _ h => h) (Or.inl ⟨by rfl, ?hy11005⟩) hHeld ?_
  case hy11005 => (intro w hSw; (try dsimp only at hSw); go_simp; (try with_reducible rfl))
  (try simp only [Act.put, List.setIfInBounds_toArray, List.set_cons_zero, List.set_cons_succ])
  refine wpAnyH_take (i := 9) (oi := { dst := some 176, op := Op.fieldAddr 77 (Operand.tmp 175) 2, type := 0, pos := "edge.go:99", after := #[{ on := 8, ground := Ground.data }, { on := 0, ground := Ground.phase }, { on := 1, ground := Ground.phase }, { on := 2, ground := Ground.phase }, { on := 3, ground := Ground.phase }, { on := 4, ground := Ground.phase }, { on := 5, ground := Ground.phase }, { on := 6, ground := Ground.phase }, { on := 7, ground := Ground.phase }], guard := none }) (v := ?v11006) rfl (by kernel_rfl) (by kernel_rfl) (by kernel_rfl) (fun _ _ _ h => h) (Or.inl ⟨by rfl, ?hy11006⟩) hHeld ?_
  case hy11006 => (intro w hSw; (try dsimp only at hSw); go_simp; (try with_reducible rfl))
  (try simp only [Act.put, List.setIfInBounds_toArray, List.set_cons_zero, List.set_cons_succ])
  refine wpAnyH_ready (rs := [10]) (by kernel_rfl) (by simp) ?_
  refine AllReadyH.cons (o := { dst := none, op := Op.store 51 (Operand.tmp 176) (Operand.tmp 174), type := 0, pos := "edge.go:99", after := #[{ on := 9, ground := Ground.data }, { on := 7, ground := Ground.data }, { on := 7, ground := Ground.chain }, { on := 0, ground := Ground.phase }, { on := 1, ground := Ground.phase }, { on := 2, ground := Ground.phase }, { on := 3, ground := Ground.phase }, { on := 4, ground := Ground.phase }, { on := 5, ground := Ground.phase }, { on := 6, ground := Ground.phase }, { on := 7, ground := Ground.phase }], guard := none }) rfl (fun K hK => ?_) ?_
  have hC5 := K5.out.heap (heap_keep HE.out.cell (BLw w wl BL.out)) (fun e => by have := (HE.out.own.lt _ e).1; have := HE.out.lt; omega); have c9 : w5.cell? ⟨eb, 2, none⟩ = some v := gen_cell (j := 2) (row_range (L := [.int .i64 dl, .pointer (some ⟨tb, 0, none⟩), v]) hC5) rfl; have z9 : w5.frozen? ⟨eb, 2, none⟩ = false := frozen_of_row _ _ _ _ _ hC5; go_simp; refine setW (L := [.int .i64 dl, .pointer (some ⟨tb, 0, none⟩), v]) hC5 ?_; intro w6 h6 f6; have H6 := hid h6; have F6 := hid f6; clear h6 f6 hC5 c9 z9
  refine hK.out _ _ (trivial) (fun hHeld => ?_)
  clear hK K
  (try simp only [List.setIfInBounds_toArray, List.set_cons_zero, List.set_cons_succ])
  refine wpAnyH_done (by kernel_rfl) ?_ _
  rotate_left
  exact AllReadyH.nil
  exact AllReadyH.nil
  exact AllReadyH.nil
  exact AllReadyH.nil
  refine AllReadyH.cons (o := { dst := some 172, op := Op.load 62 (Operand.tmp 14), type := 62, pos := "edge.go:99", after := #[], guard := none }) rfl (fun K hK => ?_) ?_
  rw [if_pos (by rfl)]; refine wp_load_mid _ _ rfl KF 0 rfl f.cells _ (range_keep (Below.refl _ _).drew rf) un rfl hil.out ?_
  refine hK.out _ _ (trivial) (fun hHeld => ?_)
  clear hK K
  (try simp only [List.setIfInBounds_toArray, List.set_cons_zero, List.set_cons_succ])
  refine wpAnyH_ready (rs := [4, 6]) (by kernel_rfl) (by simp) ?_
  refine AllReadyH.cons (o := { dst := some 171, op := Op.load 51 (Operand.tmp 170), type := 51, pos := "edge.go:99", after := #[{ on := 3, ground := Ground.data }], guard := none }) rfl (fun K hK => ?_) ?_
  have c0 : w.drew.cell? ⟨eb, 2, none⟩ = some v := d2; first | (have c9 := cell_keep BL.out c0; go_simp) | go_simp
  refine hK.out _ _ (trivial) (fun hHeld => ?_)
  clear hK K
  (try simp only [List.setIfInBounds_toArray, List.set_cons_zero, List.set_cons_succ])
  refine wpAnyH_ready (rs := [6]) (by kernel_rfl) (by simp) ?_
  refine AllReadyH.cons (o := { dst := some 173, op := Op.buildSlice 51 1 #[(0, Operand.tmp 172)], type := 51, pos := "edge.go:99", after := #[{ on := 5, ground := Ground.data }], guard := none }) rfl (fun K hK => ?_) ?_
  rw [if_pos (by rfl)]; refine wp_lit1 _ _ _ rfl rfl unS infoF hzi hcs (by decide) (by decide) ?_; (first | refine newZ ?_ | refine newZd ?_); intro wl hl bl; have HLt := hid hl; have BL := hid bl; clear hl bl
  refine hK.out _ _ (trivial) (fun hHeld => ?_)
  clear hK K
  (try simp only [List.setIfInBounds_toArray, List.set_cons_zero, List.set_cons_succ])
  refine wpAnyH_ready (rs := [7]) (by kernel_rfl) (by simp) ?_
  refine AllReadyH.cons (o := { dst := some 174, op := Op.call { callee := Callee.builtin Builtin.append, args := #[Operand.tmp 171, Operand.tmp 173], argTypes := #[51, 51] }, type := 51, pos := "edge.go:99", after := #[{ on := 4, ground := Ground.data }, { on := 6, ground := Ground.data }], guard := none }) rfl (fun K hK => ?_) ?_
  rw [if_pos (by rfl)]; refine wp_pushK _ _ _ rfl tyFs B (own_below HE.out.own (BLw w wl BL.out)) rfl rfl HLt.out (Fw.len FOK.out) (Fw.one f) (by have := HL.out; omega) (by decide) (Nat.le_trans HB.out (BLw w wl BL.out).size) ?_; intro v5 w5 own5 k5 nb5; obtain ⟨a5, c5, rfl, _⟩ := Rd.of_owns own5; have O5 := hid own5; have K5 := hid k5; have N5 := hid nb5; clear own5 k5 nb5
  refine hK.out _ _ (trivial) (fun hHeld => ?_)
  clear hK K
  (try simp only [List.setIfInBounds_toArray, List.set_cons_zero, List.set_cons_succ])
  refine wpAnyH_take (i := 8) (oi := { dst := some 175, op := Op.nilCheck (Operand.tmp 167), type := 0, pos := "edge.go:99", after := #[{ on := 0, ground := Ground.data }, { on := 0, ground := Ground.phase }, { on := 1, ground := Ground.phase }, { on := 2, ground := Ground.phase }, { on := 3, ground := Ground.phase }, { on := 4, ground := Ground.phase }, { on := 5, ground := Ground.phase }, { on := 6, ground := Ground.phase }, { on := 7, ground := Ground.phase }], guard := none }) (v := ?v11007) rfl (by kernel_rfl) (by kernel_rfl) (by kernel_rfl) (fun _ _ _ h => h) (Or.inl ⟨by rfl, ?hy11007⟩) hHeld ?_
  case hy11007 => (intro w hSw; (try dsimp only at hSw); go_simp; (try with_reducible rfl))
  (try simp only [Act.put, List.setIfInBounds_toArray, List.set_cons_zero, List.set_cons_succ])
  refine wpAnyH_take (i := 9) (oi := { dst := some 176, op := Op.fieldAddr 77 (Operand.tmp 175) 2, type := 0, pos := "edge.go:99", after := #[{ on := 8, ground := Ground.data }, { on := 0, ground := Ground.phase }, { on := 1, ground := Ground.phase }, { on := 2, ground := Ground.phase }, { on := 3, ground := Ground.phase }, { on := 4, ground := Ground.phase }, { on := 5, ground := Ground.phase }, { on := 6, ground := Ground.phase }, { on := 7, ground := Ground.phase }], guard := none }) (v := ?v11008) rfl (by kernel_rfl) (by kernel_rfl) (by kernel_rfl) (fun _ _ _ h => h) (Or.inl ⟨by rfl, ?hy11008⟩) hHeld ?_
  case hy11008 => (intro w hSw; (try dsimp only at hSw); go_simp; (try with_reducible rfl))
  (try simp only [Act.put, List.setIfInBounds_toArray, List.set_cons_zero, List.set_cons_succ])
  refine wpAnyH_ready (rs := [10]) (by kernel_rfl) (by simp) ?_
  refine AllReadyH.cons (o := { dst := none, op := Op.store 51 (Operand.tmp 176) (Operand.tmp 174), type := 0, pos := "edge.go:99", after := #[{ on := 9, ground := Ground.data }, { on := 7, ground := Ground.data }, { on := 7, ground := Ground.chain }, { on := 0, ground := Ground.phase }, { on := 1, ground := Ground.phase }, { on := 2, ground := Ground.phase }, { on := 3, ground := Ground.phase }, { on := 4, ground := Ground.phase }, { on := 5, ground := Ground.phase }, { on := 6, ground := Ground.phase }, { on := 7, ground := Ground.phase }], guard := none }) rfl (fun K hK => ?_) ?_
  have hC5 := K5.out.heap (heap_keep HE.out.cell (BLw w wl BL.out)) (fun e => by have := (HE.out.own.lt _ e).1; have := HE.out.lt; omega); have c9 : w5.cell? ⟨eb, 2, none⟩ = some v := gen_cell (j := 2) (row_range (L := [.int .i64 dl, .pointer (some ⟨tb, 0, none⟩), v]) hC5) rfl; have z9 : w5.frozen? ⟨eb, 2, none⟩ = false := frozen_of_row _ _ _ _ _ hC5; go_simp; refine setW (L := [.int .i64 dl, .pointer (some ⟨tb, 0, none⟩), v]) hC5 ?_; intro w6 h6 f6; have H6 := hid h6; have F6 := hid f6; clear h6 f6 hC5 c9 z9
  refine hK.out _ _ (trivial) (fun hHeld => ?_)
  clear hK K
  (try simp only [List.setIfInBounds_toArray, List.set_cons_zero, List.set_cons_succ])
  refine wpAnyH_done (by kernel_rfl) ?_ _
  rotate_left
  exact AllReadyH.nil
  exact AllReadyH.nil
  exact AllReadyH.nil
  refine AllReadyH.cons (o := { dst := some 173, op := Op.buildSlice 51 1 #[(0, Operand.tmp 172)], type := 51, pos := "edge.go:99", after := #[{ on := 5, ground := Ground.data }], guard := none }) rfl (fun K hK => ?_) ?_
  rw [if_pos (by rfl)]; refine wp_lit1 _ _ _ rfl rfl unS infoF hzi hcs (by decide) (by decide) ?_; (first | refine newZ ?_ | refine newZd ?_); intro wl hl bl; have HLt := hid hl; have BL := hid bl; clear hl bl
  refine hK.out _ _ (trivial) (fun hHeld => ?_)
  clear hK K
  (try simp only [List.setIfInBounds_toArray, List.set_cons_zero, List.set_cons_succ])
  refine wpAnyH_ready (rs := [4]) (by kernel_rfl) (by simp) ?_
  refine AllReadyH.cons (o := { dst := some 171, op := Op.load 51 (Operand.tmp 170), type := 51, pos := "edge.go:99", after := #[{ on := 3, ground := Ground.data }], guard := none }) rfl (fun K hK => ?_) ?_
  have c0 : w.drew.cell? ⟨eb, 2, none⟩ = some v := d2; first | (have c9 := cell_keep BL.out c0; go_simp) | go_simp
  refine hK.out _ _ (trivial) (fun hHeld => ?_)
  clear hK K
  (try simp only [List.setIfInBounds_toArray, List.set_cons_zero, List.set_cons_succ])
  refine wpAnyH_ready (rs := [7]) (by kernel_rfl) (by simp) ?_
  refine AllReadyH.cons (o := { dst := some 174, op := Op.call { callee := Callee.builtin Builtin.append, args := #[Operand.tmp 171, Operand.tmp 173], argTypes := #[51, 51] }, type := 51, pos := "edge.go:99", after := #[{ on := 4, ground := Ground.data }, { on := 6, ground := Ground.data }], guard := none }) rfl (fun K hK => ?_) ?_
  rw [if_pos (by rfl)]; refine wp_pushK _ _ _ rfl tyFs B (own_below HE.out.own (BLw w wl BL.out)) rfl rfl HLt.out (Fw.len FOK.out) (Fw.one f) (by have := HL.out; omega) (by decide) (Nat.le_trans HB.out (BLw w wl BL.out).size) ?_; intro v5 w5 own5 k5 nb5; obtain ⟨a5, c5, rfl, _⟩ := Rd.of_owns own5; have O5 := hid own5; have K5 := hid k5; have N5 := hid nb5; clear own5 k5 nb5
  refine hK.out _ _ (trivial) (fun hHeld => ?_)
  clear hK K
  (try simp only [List.setIfInBounds_toArray, List.set_cons_zero, List.set_cons_succ])
  refine wpAnyH_take (i := 8) (oi := { dst := some 175, op := Op.nilCheck (Operand.tmp 167), type := 0, pos := "edge.go:99", after := #[{ on := 0, ground := Ground.data }, { on := 0, ground := Ground.phase }, { on := 1, ground := Ground.phase }, { on := 2, ground := Ground.phase }, { on := 3, ground := Ground.phase }, { on := 4, ground := Ground.phase }, { on := 5, ground := Ground.phase }, { on := 6, ground := Ground.phase }, { on := 7, ground := Ground.phase }], guard := none }) (v := ?v11009) rfl (by kernel_rfl) (by kernel_rfl) (by kernel_rfl) (fun _ _ _ h => h) (Or.inl ⟨by rfl, ?hy11009⟩) hHeld ?_
  case hy11009 => (intro w hSw; (try dsimp only at hSw); go_simp; (try with_reducible rfl))
  (try simp only [Act.put, List.setIfInBounds_toArray, List.set_cons_zero, List.set_cons_succ])
  refine wpAnyH_take (i := 9) (oi := { dst := some 176, op := Op.fieldAddr 77 (Operand.tmp 175) 2, type := 0, pos := "edge.go:99", after := #[{ on := 8, ground := Ground.data }, { on := 0, ground := Ground.phase }, { on := 1, ground := Ground.phase }, { on := 2, ground := Ground.phase }, { on := 3, ground := Ground.phase }, { on := 4, ground := Ground.phase }, { on := 5, ground := Ground.phase }, { on := 6, ground := Ground.phase }, { on := 7, ground := Ground.phase }], guard := none }) (v := ?v11010) rfl (by kernel_rfl) (by kernel_rfl) (by kernel_rfl) (fun _ _ _ h => h) (Or.inl ⟨by rfl, ?hy11010⟩) hHeld ?_
  case hy11010 => (intro w hSw; (try dsimp only at hSw); go_simp; (try with_reducible rfl))
  (try simp only [Act.put, List.setIfInBounds_toArray, List.set_cons_zero, List.set_cons_succ])
  refine wpAnyH_ready (rs := [10]) (by kernel_rfl) (by simp) ?_
  refine AllReadyH.cons (o := { dst := none, op := Op.store 51 (Operand.tmp 176) (Operand.tmp 174), type := 0, pos := "edge.go:99", after := #[{ on := 9, ground := Ground.data }, { on := 7, ground := Ground.data }, { on := 7, ground := Ground.chain }, { on := 0, ground := Ground.phase }, { on := 1, ground := Ground.phase }, { on := 2, ground := Ground.phase }, { on := 3, ground := Ground.phase }, { on := 4, ground := Ground.phase }, { on := 5, ground := Ground.phase }, { on := 6, ground := Ground.phase }, { on := 7, ground := Ground.phase }], guard := none }) rfl (fun K hK => ?_) ?_
  have hC5 := K5.out.heap (heap_keep HE.out.cell (BLw w wl BL.out)) (fun e => by have := (HE.out.own.lt _ e).1; have := HE.out.lt; omega); have c9 : w5.cell? ⟨eb, 2, none⟩ = some v := gen_cell (j := 2) (row_range (L := [.int .i64 dl, .pointer (some ⟨tb, 0, none⟩), v]) hC5) rfl; have z9 : w5.frozen? ⟨eb, 2, none⟩ = false := frozen_of_row _ _ _ _ _ hC5; go_simp; refine setW (L := [.int .i64 dl, .pointer (some ⟨tb, 0, none⟩), v]) hC5 ?_; intro w6 h6 f6; have H6 := hid h6; have F6 := hid f6; clear h6 f6 hC5 c9 z9
  refine hK.out _ _ (trivial) (fun hHeld => ?_)
  clear hK K
  (try simp only [List.setIfInBounds_toArray, List.set_cons_zero, List.set_cons_succ])
  refine wpAnyH_done (by kernel_rfl) ?_ _
  rotate_left
  exact AllReadyH.nil
  exact AllReadyH.nil
  exact AllReadyH.nil
  exact AllReadyH.nil
  exact AllReadyH.nil
  all_goals
    have bl := BLw w wl BL.out
    have o6 := Far.own O5.out F6.out (fun e => by have := (O5.out.lt _ e).1; have := HE.out.lt; omega)
    refine ⟨rfl, ⟨rfl, rfl, rfl, rfl, rfl, rfl, rfl, rfl⟩, ((Keep.of bl).trans (K5.out.mono (fun i hi => .inr hi))).trans (Keep.far F6.out (.inl rfl)), _, ⟨H6.out, ?_, ?_, ?_, HE.out.lt⟩, ?_⟩
    · rw [List.flatMap_append, List.flatMap_cons, List.flatMap_nil, List.append_nil, List.length_append]
      exact o6
    · intro p hp
      rcases List.mem_append.1 hp with hp | hp
      · exact HE.out.ok p hp
      · rw [List.mem_singleton.1 hp]; exact FOK.out
    · have := HL.out
      simp
      omega
    · rcases N5.out with h | h
      · exact .inl h
      · exact .inr (fun g hg => by rw [h] at hg; cases hg; exact bl.size)
end Go.Proofs.YthccjefhlmngbaaDoor

/- Hand: what it answers; a forward is built. -/
namespace Go.Proofs.YthccjefhlmngbaaDoor
open Go.RowKit

set_option maxRecDepth 100000 in
theorem built_fw' (a0 a1 a2 a3 a4 a5 a6 a7 a8 a9 a10 a11 a12 a13 a14 a15 a16 a17 a18 a19 a20 a21 a22 a23 a24 a25 a26 a27 a28 a29 a30 a31 b0 b1 b2 b3 b4 b5 b6 b7 b8 b9 b10 b11 b12 b13 b14 b15 b16 b17 b18 b19 b20 b21 b22 b23 b24 b25 b26 b27 b28 b29 b30 b31 c0 c1 c2 c3 c4 c5 c6 c7 c8 c9 c10 c11 c12 c13 c14 c15 c16 c17 c18 c19 c20 c21 c22 c23 c24 c25 c26 c27 c28 c29 c30 c31 d0 d1 d2 d3 d4 d5 d6 d7 d8 d9 d10 d11 d12 d13 d14 d15 d16 d17 d18 d19 d20 d21 d22 d23 d24 d25 d26 d27 d28 d29 d30 d31 e0 e1 e2 e3 e4 e5 e6 e7 e8 e9 e10 e11 e12 e13 e14 e15 e16 e17 e18 e19 e20 e21 e22 e23 e24 e25 e26 e27 e28 e29 e30 e31 : Nat) (l1 n1 f1 u1 l2 n2 f2 u2 : Int) (m1 m2 : Nat) :
    Tryd.prog.built 62 [(0, .agg (Lg.cells ⟨l1, ⟨n1, f1, [a0, a1, a2, a3, a4, a5, a6, a7, a8, a9, a10, a11, a12, a13, a14, a15, a16, a17, a18, a19, a20, a21, a22, a23, a24, a25, a26, a27, a28, a29, a30, a31], m1, [b0, b1, b2, b3, b4, b5, b6, b7, b8, b9, b10, b11, b12, b13, b14, b15, b16, b17, b18, b19, b20, b21, b22, b23, b24, b25, b26, b27, b28, b29, b30, b31], u1⟩⟩).toArray), (1, .agg (Lg.cells ⟨l2, ⟨n2, f2, [c0, c1, c2, c3, c4, c5, c6, c7, c8, c9, c10, c11, c12, c13, c14, c15, c16, c17, c18, c19, c20, c21, c22, c23, c24, c25, c26, c27, c28, c29, c30, c31], m2, [d0, d1, d2, d3, d4, d5, d6, d7, d8, d9, d10, d11, d12, d13, d14, d15, d16, d17, d18, d19, d20, d21, d22, d23, d24, d25, d26, d27, d28, d29, d30, d31], u2⟩⟩).toArray), (2, .agg (nums .u8 [e0, e1, e2, e3, e4, e5, e6, e7, e8, e9, e10, e11, e12, e13, e14, e15, e16, e17, e18, e19, e20, e21, e22, e23, e24, e25, e26, e27, e28, e29, e30, e31]).toArray)] = some (Fw.cells ⟨⟨l1, ⟨n1, f1, [a0, a1, a2, a3, a4, a5, a6, a7, a8, a9, a10, a11, a12, a13, a14, a15, a16, a17, a18, a19, a20, a21, a22, a23, a24, a25, a26, a27, a28, a29, a30, a31], m1, [b0, b1, b2, b3, b4, b5, b6, b7, b8, b9, b10, b11, b12, b13, b14, b15, b16, b17, b18, b19, b20, b21, b22, b23, b24, b25, b26, b27, b28, b29, b30, b31], u1⟩⟩, ⟨l2, ⟨n2, f2, [c0, c1, c2, c3, c4, c5, c6, c7, c8, c9, c10, c11, c12, c13, c14, c15, c16, c17, c18, c19, c20, c21, c22, c23, c24, c25, c26, c27, c28, c29, c30, c31], m2, [d0, d1, d2, d3, d4, d5, d6, d7, d8, d9, d10, d11, d12, d13, d14, d15, d16, d17, d18, d19, d20, d21, d22, d23, d24, d25, d26, d27, d28, d29, d30, d31], u2⟩⟩, [e0, e1, e2, e3, e4, e5, e6, e7, e8, e9, e10, e11, e12, e13, e14, e15, e16, e17, e18, e19, e20, e21, e22, e23, e24, e25, e26, e27, e28, e29, e30, e31], 0, hz32, 0⟩).toArray := by kernel_rfl
theorem built_fw {a b : Lg} {no : List Nat} (ha : a.ok) (hb : b.ok) (hn : no.length = 32) :
    Tryd.prog.built 62 [(0, .agg a.cells.toArray), (1, .agg b.cells.toArray), (2, .agg (nums .u8 no).toArray)] = some (Fw.cells ⟨a, b, no, 0, hz32, 0⟩).toArray := by
  obtain ⟨l1, n1, f1, i1, m1, k1, u1⟩ := a
  obtain ⟨l2, n2, f2, i2, m2, k2, u2⟩ := b
  have h1 := ha.o.il
  have h2 := ha.o.ll
  have h3 := hb.o.il
  have h4 := hb.o.ll
  dsimp only at h1 h2 h3 h4
  clear ha hb
  match i1, h1, k1, h2, i2, h3, k2, h4, no, hn with
  | [a0, a1, a2, a3, a4, a5, a6, a7, a8, a9, a10, a11, a12, a13, a14, a15, a16, a17, a18, a19, a20, a21, a22, a23, a24, a25, a26, a27, a28, a29, a30, a31], _, [b0, b1, b2, b3, b4, b5, b6, b7, b8, b9, b10, b11, b12, b13, b14, b15, b16, b17, b18, b19, b20, b21, b22, b23, b24, b25, b26, b27, b28, b29, b30, b31], _, [c0, c1, c2, c3, c4, c5, c6, c7, c8, c9, c10, c11, c12, c13, c14, c15, c16, c17, c18, c19, c20, c21, c22, c23, c24, c25, c26, c27, c28, c29, c30, c31], _, [d0, d1, d2, d3, d4, d5, d6, d7, d8, d9, d10, d11, d12, d13, d14, d15, d16, d17, d18, d19, d20, d21, d22, d23, d24, d25, d26, d27, d28, d29, d30, d31], _, [e0, e1, e2, e3, e4, e5, e6, e7, e8, e9, e10, e11, e12, e13, e14, e15, e16, e17, e18, e19, e20, e21, e22, e23, e24, e25, e26, e27, e28, e29, e30, e31], _ => exact built_fw' a0 a1 a2 a3 a4 a5 a6 a7 a8 a9 a10 a11 a12 a13 a14 a15 a16 a17 a18 a19 a20 a21 a22 a23 a24 a25 a26 a27 a28 a29 a30 a31 b0 b1 b2 b3 b4 b5 b6 b7 b8 b9 b10 b11 b12 b13 b14 b15 b16 b17 b18 b19 b20 b21 b22 b23 b24 b25 b26 b27 b28 b29 b30 b31 c0 c1 c2 c3 c4 c5 c6 c7 c8 c9 c10 c11 c12 c13 c14 c15 c16 c17 c18 c19 c20 c21 c22 c23 c24 c25 c26 c27 c28 c29 c30 c31 d0 d1 d2 d3 d4 d5 d6 d7 d8 d9 d10 d11 d12 d13 d14 d15 d16 d17 d18 d19 d20 d21 d22 d23 d24 d25 d26 d27 d28 d29 d30 d31 e0 e1 e2 e3 e4 e5 e6 e7 e8 e9 e10 e11 e12 e13 e14 e15 e16 e17 e18 e19 e20 e21 e22 e23 e24 e25 e26 e27 e28 e29 e30 e31 l1 n1 f1 u1 l2 n2 f2 u2 m1 m2
def pickA (a b : Lg) : Ofr := if a.o.id = hz32 then b.o else a.o
def pickB (a b : Lg) : Ofr := if a.o.id = hz32 then a.o else b.o
def anyF (L : List Fw) (line no : Int) (out : Bool) : Bool := L.any (hitF line no out)
/-- what the table says to it -/
def handU (M : QM) (a b : Lg) (no : List Nat) (h : Int) : Quo × Nat :=
  if a.o.id = hz32 then useS (M no) true h (pickA a b).am (fun rc ru => payB (pickB a b).am ru (pickA a b).am rc) else useS (M no) false h (pickA a b).am (fun rc ru => payB (pickA a b).am rc (pickB a b).am ru)
def handT (M : QM) (a b : Lg) (no : List Nat) (h : Int) : Option Quo → Nat
  | none => 5
  | some q => if (pickA a b).id ≠ q.id then 60 else (handU M a b no h).2
def handC (a b : Lg) (no : List Nat) (h dl : Int) (L : List Fw) (M : QM) : Nat :=
  if argB a b = true then 1 else if (anyF L a.line a.o.no false || anyF L b.line b.o.no true) = true then 6 else if 256 ≤ L.length then 4 else if timB a b h dl = true then 33 else
  handT M a b no h (M no)
def newF (a b : Lg) (no : List Nat) : Fw := ⟨a, b, no, (pickA a b).am, hz32, 0⟩
/-- what is there then -/
def handL (k : Nat) (L : List Fw) (f : Fw) : List Fw := if k = 0 then L ++ [f] else L
def handM (k : Nat) (M : QM) (no : List Nat) (q : Quo) : QM := if k = 0 then updM M no q else M
def HandRes (w : World) (eb tb mb : Nat) (dl : Int) (B : Nat) (v : Value) (L : List Fw) (M : QM) (n : Nat) (k : Nat) (f : Fw) (no : List Nat) (q : Quo) (e : Ending) (w' : World) : Prop :=
  e = .returned (.int .i64 (k : Int)) ∧ ∃ v', Shop w' eb tb mb dl B v' (handL k L f) (handM k M no q) n ∧ Keep (ShopS eb mb v) w w' ∧ Newer w v v'
theorem HandRes.bad {w w' : World} {eb tb mb : Nat} {dl : Int} {B : Nat} {v : Value} {L : List Fw} {M : QM} {n k j : Nat} {f : Fw} {no : List Nat} {q : Quo} (h : Shop w eb tb mb dl B v L M n) (hb : Below w.heap.size w w') (hk : k = j) (hj : j ≠ 0) : HandRes w eb tb mb dl B v L M n k f no q (.returned (.int .i64 (j : Int))) w' := by
  subst hk
  refine ⟨rfl, v, ?_, Keep.of hb, Newer.refl _ _⟩
  unfold handL handM
  rw [if_neg hj, if_neg hj]
  exact h.below hb
theorem any_idx {L : List Fw} {p : Fw → Bool} {r : Int} (h : IdxAt L p r) : decide (0 ≤ r) = L.any p := by
  rcases h with ⟨rfl, h⟩ | ⟨j, f, rfl, hj, hp, _⟩
  · rw [decide_eq_false (by omega)]
    symm
    rw [List.any_eq_false]
    intro f hf
    simp [h f hf]
  · rw [decide_eq_true (by omega)]
    symm
    rw [List.any_eq_true]
    exact ⟨f, List.mem_of_getElem? hj, hp⟩
end Go.Proofs.YthccjefhlmngbaaDoor

/- Hand, joined. -/
namespace Go.Proofs.YthccjefhlmngbaaDoor
open Go.RowKit

theorem Fw.setUnits {f : Fw} (h : f.ok) (u : Nat) : f.cells.set 170 (.int .u64 (u : Int)) = Fw.cells { f with units := u } := by
  have e : ∀ m : Nat, Fw.cells { f with units := m } = (f.inn.cells ++ f.out.cells ++ nums .u8 f.qt) ++ (.int .u64 (m : Int) :: (nums .u8 f.sec ++ [.int .i64 f.st])) := fun m => by simp [Fw.cells, Fw.tail]
  have e0 := e f.units
  have hl : (f.inn.cells ++ f.out.cells ++ nums .u8 f.qt).length = 170 := by simp [Lg.len h.i, Lg.len h.o, h.ql]
  rw [show f.cells = Fw.cells { f with units := f.units } from rfl, e0, e u, List.set_append_right _ _ (by omega), hl]
  rfl
theorem argB_false {a b : Lg} (h : argB a b = false) : a.line ≠ b.line ∧ a.o.lock = b.o.lock ∧ (a.o.id = hz32 ↔ ¬ b.o.id = hz32) ∧ isH a.o.til = true ∧ isH b.o.til = true := by
  unfold argB at h
  simp only [Bool.or_eq_false_iff, decide_eq_false_iff_not, Bool.not_eq_false', decide_eq_true_eq] at h
  obtain ⟨h1, h2, h3, h4, h5⟩ := h
  refine ⟨h1, h2, ?_, h4, h5⟩
  by_cases x : a.o.id = hz32
  · by_cases y : b.o.id = hz32
    · simp [x, y] at h3
    · simp [x, y]
  · by_cases y : b.o.id = hz32
    · simp [x, y]
    · simp [x, y] at h3
theorem wpList_build3 {P : Program} {ops : Array Oper} {rest : List Oper} {o : Oper} {a : Act} {w : World} {Q : Exit → Act → World → Prop} (hg : o.guard = none) (t : TypeId) (x0 x1 x2 : Operand) (ho : o.op = .build t #[(0, x0), (1, x1), (2, x2)])
    {v0 v1 v2 : Value} {cells : Array Value} (hb : P.built t [(0, v0), (1, v1), (2, v2)] = some cells) (h0 : a.eval x0 = v0) (h1 : a.eval x1 = v1) (h2 : a.eval x2 = v2)
    (h : wpList P ops Q rest (a.put o.dst (.agg cells)) w) : wpList P ops Q (o :: rest) a w := by
  have hv : ((#[(0, x0), (1, x1), (2, x2)] : Array (Nat × Operand)).map fun (i, x) => (i, a.eval x)).toList = [(0, v0), (1, v1), (2, v2)] := by simp [h0, h1, h2]
  exact wpList_build hg t _ ho (by rw [hv, hb]; rfl) (by rw [hv, hb]; exact h)
def hnF (A4 A10 A12 A17 A20 A27 : Code) : Nat → Option Code
  | 4 => some A4
  | 10 => some A10
  | 12 => some A12
  | 17 => some A17
  | 20 => some A20
  | 27 => some A27
  | _ => none
noncomputable def hnX (A4 A10 A12 A17 A20 A27 : Code) : Code := putG (hnF A4 A10 A12 A17 A20 A27) (Tryd.f12.body.getD .skip)
set_option maxRecDepth 1000000 in
set_option maxHeartbeats 16000000 in
theorem hand_walk (eb tb mb : Nat) (dl : Int) (B : Nat) (v : Value) (L : List Fw) (M : QM) (n : Nat) (a b : Lg) (ha : a.ok) (hb : b.ok) (no : List Nat) (hno : EH.ok no) (h : Int) (w : World) (hS : Shop w eb tb mb dl B v L M n) :
    Calls Tryd.prog 12 #[.pointer (some ⟨eb, 0, none⟩), .agg a.cells.toArray, .agg b.cells.toArray, .agg (nums .u8 no).toArray, .int .i64 h] w
      (HandRes w eb tb mb dl B v L M n (handC a b no h dl L M) (newF a b no) no (handU M a b no h).1) := by
  have A3 := alloc3p w (.cells a.cells.toArray 42) (.cells b.cells.toArray 42) (.cells (nums .u8 no).toArray 27)
  have HA := hid ha
  have HB := hid hb
  have HNO := hid hno
  have HS := hid hS
  obtain ⟨kc, hkc⟩ : ∃ kc, kc = handC a b no h dl L M := ⟨_, rfl⟩
  rw [← hkc]
  have HK := hid hkc
  have A3' := hid A3
  clear hkc hS ha hb hno A3
  go_enter Tryd.func12, Tryd.ntmps12
  have e : Tryd.f12.body.getD .skip = hnX (hndC 4) (hndC 10) (hndC 12) (hndC 17) (hndC 20) (hndC 27) := by kernel_rfl
  refine (show Code.wp _ (Tryd.f12.body.getD .skip) _ _ _ from ?_)
  rw [e]
  have P4 := hid (fun (K1 K2 K3 K4 : Nat) (T : Array Value) (wx : World) (s : HSl eb K1 K2 K3 K4 h T) (u : HVar K1 K2 K3 K4 a b no wx) => hand4 s u HA.out HB.out)
  have P10 := hid (fun (K1 K2 K3 K4 : Nat) (i1 : isH a.o.til = true) (i2 : isH b.o.til = true) (T : Array Value) (wx : World) (s : HSl eb K1 K2 K3 K4 h T) (u : HVar K1 K2 K3 K4 a b no wx) (hc : wx.heap[eb]? = some (.cells #[.int .i64 dl, .pointer (some ⟨tb, 0, none⟩), v] 77 (0, 0))) => hand10 s u HA.out HB.out i1 i2 hc)
  have P12 := hid (fun (K1 K2 K3 K4 : Nat) (T : Array Value) (wx : World) (s : HSl eb K1 K2 K3 K4 h T) (u : HVar K1 K2 K3 K4 a b no wx) (ht : TabAt wx tb mb M n) (hc : wx.heap[eb]? = some (.cells #[.int .i64 dl, .pointer (some ⟨tb, 0, none⟩), v] 77 (0, 0))) => hand12 s u HNO.out ht hc)
  have P17 := hid (fun (K1 K2 K3 K4 : Nat) (p12 p14 p15 : Value) (T : Array Value) (wx : World) (s : HSl eb K1 K2 K3 K4 h T) (u : HVar K1 K2 K3 K4 a b no wx) (e12 : tm T 12 = p12) (e14 : tm T 14 = p14) (e15 : tm T 15 = p15) => hand17 s u HA.out HB.out e12 e14 e15)
  have P20 := hid (fun (K1 K2 K3 K4 K6 K7 : Nat) (p12 p14 p15 : Value) (T : Array Value) (wx : World) (s : HSl eb K1 K2 K3 K4 h T) (u : HVar K1 K2 K3 K4 a b no wx) (e12 : tm T 12 = p12) (e14 : tm T 14 = p14) (e15 : tm T 15 = p15) (e16 : tm T 16 = .pointer (some ⟨K6, 0, none⟩)) (e17 : tm T 17 = .pointer (some ⟨K7, 0, none⟩))
    (h6 : wx.heap[K6]? = some (.cells a.o.cells.toArray 40 (0, 0))) (h7 : wx.heap[K7]? = some (.cells b.o.cells.toArray 40 (0, 0))) (hne : K6 ≠ K7) (n1 : ¬ (K1 = K6 ∨ K1 = K7)) (n2 : ¬ (K2 = K6 ∨ K2 = K7)) => hand20 s u HA.out HB.out e12 e14 e15 e16 e17 h6 h7 hne n1 n2)
  have P27 := hid (fun (K1 K2 K3 K4 KF : Nat) (f : Fw) (T : Array Value) (wx : World) (s : HSl eb K1 K2 K3 K4 h T) (e14 : tm T 14 = .pointer (some ⟨KF, 0, none⟩)) (hE : EdgeAt wx eb tb dl B v L) (hl : L.length < 256) (hB : B ≤ wx.heap.size) (hf : wx.heap[KF]? = some (.cells f.cells.toArray 62 (0, 0))) (fok : f.ok) => hand27 s e14 hE hl hB hf fok)
  generalize hndC 4 = C4 at *
  generalize hndC 10 = C10 at *
  generalize hndC 12 = C12 at *
  generalize hndC 17 = C17 at *
  generalize hndC 20 = C20 at *
  generalize hndC 27 = C27 at *
  clear e
  conv => arg 2; unfold hnX; arg 2; whnf
  simp only [putG, hnF, Option.getD_some, Option.getD_none]
  have un := Tryd.underlying27
  have hiz := hid (show (Tryd.prog.info? 27).map (·.size) = some (nums .u8 hz32).toArray.size by kernel_rfl)
  have hoz := hid (all_oneCell_toArray (nums_oneCell .u8 hz32))
  go_upto_region 3 with (fail)
  have B1 := hid A3'.out.2.2.2
  have r1 := hid A3'.out.1
  have r2 := hid A3'.out.2.1
  have r3 := hid A3'.out.2.2.1
  clear A3'
  generalize hw3 : ((w.alloc (.cells a.cells.toArray 42)).alloc (.cells b.cells.toArray 42)).alloc (.cells (nums .u8 no).toArray 27) = w3 at *
  have hs3 := hid (show w3.heap.size = w.heap.size + 1 + 1 + 1 by rw [← hw3]; simp)
  clear hw3
  have LZ := fun z => laid w3 z (nums .u8 hz32).toArray 27
  go_wp2_with (refine wpList_store_row rfl _ _ _ rfl w3.heap.size (nums .u8 hz32).toArray rfl rfl _ _ (heap_alloc_new w3 _) hiz.out rfl hoz.out ?_)
  rename_i aK0
  have HK0 := hid aK0
  generalize hW : World.setRow _ w3.heap.size _ = w4
  have LZ4 : w4.heap[w3.heap.size]? = some (.cells (nums .u8 hz32).toArray 27 (0, 0)) ∧ Below w3.heap.size w3 w4 := by rw [← hW]; exact LZ _
  have B4 := hid (bstep B1.out LZ4.2)
  have HV := hid (show HVar w.heap.size (w.heap.size + 1) (w.heap.size + 1 + 1) w3.heap.size a b no w4 from ⟨heap_keep r1.out LZ4.2, heap_keep r2.out LZ4.2, heap_keep r3.out LZ4.2, LZ4.1⟩)
  clear LZ LZ4 hW aK0 r1 r2 r3 B1
  obtain ⟨K4, hK4⟩ : ∃ K4, K4 = w3.heap.size := ⟨_, rfl⟩
  rw [← hK4] at HV ⊢
  rw [← hK4] at hs3
  obtain ⟨K1, hK1⟩ : ∃ K1, K1 = w.heap.size := ⟨_, rfl⟩
  rw [← hK1] at HV ⊢
  have KS := hid (show K1 = w.heap.size ∧ K4 = w.heap.size + 1 + 1 + 1 from ⟨hK1, hs3.out⟩)
  clear hK4 hK1 hs3
  refine wp_mono (P4.out K1 (K1 + 1) (K1 + 1 + 1) K4 _ w4 ⟨rfl, rfl, rfl, rfl, rfl, rfl, rfl, rfl⟩ HV.out) ?_
  rintro e A w5 hh
  cases e with
  | normal =>
    obtain ⟨T5, df⟩ := A
    obtain ⟨hd, s5, e22, b5⟩ := hh
    dsimp only at hd s5 e22
    subst hd
    have HV5 := hid (HV.out.below b5)
    have B5 := hid (bstep B4.out b5)
    have HS5 := hid (HS.out.below B5.out)
    obtain ⟨ab, hab⟩ : ∃ ab, argB a b = ab := ⟨_, rfl⟩
    rw [hab] at e22
    have AB := hid hab
    refine HK0.out _ _ ?_
    rw [frameH s5.size, s5.t0, s5.t4, s5.t6, s5.t7, s5.t8, s5.t10, s5.t11, e22]
    clear HV B4 b5 e22 s5 hab HK0 P4
    cases ab with
    | true =>
      go_wp2_with (fail)
      go_ret
      exact HandRes.bad HS.out B5.out (HK.out.trans (by unfold handC; rw [if_pos AB.out])) (by decide)
    | false =>
      have l0 : w5.cell? ⟨K1, 0, none⟩ = some (.int .i64 a.line) := a.hasLine.one (row_range HV5.out.r1)
      have l1 : w5.cell? ⟨K1, 1, none⟩ = some (.int .i64 a.o.no) := (a.hasO.trans a.o.hasNo).one (row_range HV5.out.r1)
      have q0 : w5.cell? ⟨K1 + 1, 0, none⟩ = some (.int .i64 b.line) := b.hasLine.one (row_range HV5.out.r2)
      have q1 : w5.cell? ⟨K1 + 1, 1, none⟩ = some (.int .i64 b.o.no) := (b.hasO.trans b.o.hasNo).one (row_range HV5.out.r2)
      have Q0 := hid q0
      have Q1 := hid q1
      go_wp2_with (fail)
      refine (find_walk eb tb B dl v L a.line a.o.no false w5 HS5.out.e).mono ?_
      rintro e w6 ⟨r6, rfl, hi6, b6⟩
      have t6 : decide (0 ≤ r6) = anyF L a.line a.o.no false := any_idx hi6
      have t6' : decide (r6 ≥ 0) = anyF L a.line a.o.no false := t6
      have HS6 := hid (HS5.out.below b6)
      have HV6 := hid (HV5.out.below b6)
      have B6 := hid (bstep B5.out b6)
      have q0 := cell_keep b6 Q0.out
      have q1 := cell_keep b6 Q1.out
      clear Q0 Q1 hi6 b6 l0 l1 HS5 HV5 B5
      obtain ⟨a6, ha6⟩ : ∃ a6, anyF L a.line a.o.no false = a6 := ⟨_, rfl⟩
      rw [ha6] at t6 t6'
      have A6 := hid ha6
      clear ha6
      cases a6 with
      | true =>
        go_wp2_with (fail)
        go_ret
        exact HandRes.bad HS.out B6.out (HK.out.trans (by unfold handC; rw [if_neg (by rw [AB.out]; decide), A6.out, Bool.true_or, if_pos rfl])) (by decide)
      | false =>
        go_wp2_with (fail)
        refine (find_walk eb tb B dl v L b.line b.o.no true w6 HS6.out.e).mono ?_
        rintro e w7 ⟨r7, rfl, hi7, b7⟩
        have t7 : decide (0 ≤ r7) = anyF L b.line b.o.no true := any_idx hi7
        have t7' : decide (r7 ≥ 0) = anyF L b.line b.o.no true := t7
        have HS7 := hid (HS6.out.below b7)
        have HV7 := hid (HV6.out.below b7)
        have B7 := hid (bstep B6.out b7)
        clear hi7 b7 q0 q1 HS6 HV6 B6
        obtain ⟨a7, ha7⟩ : ∃ a7, anyF L b.line b.o.no true = a7 := ⟨_, rfl⟩
        rw [ha7] at t7 t7'
        have A7 := hid ha7
        clear ha7
        cases a7 with
        | true =>
          go_wp2_with (fail)
          go_ret
          exact HandRes.bad HS.out B7.out (HK.out.trans (by unfold handC; rw [if_neg (by rw [AB.out]; decide), A6.out, A7.out, Bool.or_true, if_pos rfl])) (by decide)
        | false =>
          obtain ⟨a4, c4, e4, _⟩ := HS7.out.e.fwds
          have EV := hid e4
          have d2 : w7.cell? ⟨eb, 2, none⟩ = some (.slice a4 L.length c4) := e4 ▸ gen_cell (j := 2) (row_range (L := [.int .i64 dl, .pointer (some ⟨tb, 0, none⟩), v]) HS7.out.e.cell) rfl
          have few := HS7.out.e.few
          by_cases h256 : 256 ≤ L.length
          · have t8 : decide (((L.length : Nat) : Int) ≥ 256) = true := decide_eq_true (by omega)
            have t8' : decide ((256 : Int) ≤ ((L.length : Nat) : Int)) = true := decide_eq_true (by omega)
            have t8n : decide (256 ≤ L.length) = true := decide_eq_true h256
            clear e4
            go_wp2_with (fail)
            go_ret
            exact HandRes.bad HS.out B7.out (HK.out.trans (by unfold handC; rw [if_neg (by rw [AB.out]; decide), A6.out, A7.out, Bool.or_false, if_neg (by decide), if_pos h256])) (by decide)
          · have t8 : decide (((L.length : Nat) : Int) ≥ 256) = false := decide_eq_false (by omega)
            have t8' : decide ((256 : Int) ≤ ((L.length : Nat) : Int)) = false := decide_eq_false (by omega)
            have t8n : decide (256 ≤ L.length) = false := decide_eq_false h256
            clear e4
            go_wp2_with (fail)
            rename_i aK1
            have HK1 := hid aK1
            clear aK1
            obtain ⟨hl8, hk8, hi8, hh1, hh2⟩ := argB_false AB.out
            refine wp_mono (P10.out K1 (K1 + 1) (K1 + 1 + 1) K4 hh1 hh2 _ w7 ⟨rfl, rfl, rfl, rfl, rfl, rfl, rfl, rfl⟩ HV7.out HS7.out.e.cell) ?_
            rintro e A w8 hh
            cases e with
            | normal =>
              obtain ⟨T8, df⟩ := A
              obtain ⟨hd, s8, e90, b8⟩ := hh
              dsimp only at hd s8 e90
              subst hd
              have HV8 := hid (HV7.out.below b8)
              have B8 := hid (bstep B7.out b8)
              have HS8 := hid (HS7.out.below b8)
              obtain ⟨ti, hti⟩ : ∃ ti, timB a b h dl = ti := ⟨_, rfl⟩
              rw [hti] at e90
              have TI := hid hti
              refine HK1.out _ _ ?_
              rw [frameH s8.size, s8.t0, s8.t4, s8.t6, s8.t7, s8.t8, s8.t10, s8.t11, e90]
              clear HV7 HS7 B7 b8 e90 s8 hti HK1 d2 t6 t6' t7 t7' t8 t8' t8n P10
              cases ti with
              | true =>
                go_wp2_with (fail)
                go_ret
                exact HandRes.bad HS.out B8.out (HK.out.trans (by unfold handC; rw [if_neg (by rw [AB.out]; decide), A6.out, A7.out, Bool.or_false, if_neg (by decide), if_neg h256, if_pos TI.out])) (by decide)
              | false =>
                have HKX : kc = handT M a b no h (M no) := HK.out.trans (by unfold handC; rw [if_neg (by rw [AB.out]; decide), A6.out, A7.out, Bool.or_false, if_neg (by decide), if_neg h256, if_neg (by rw [TI.out]; decide)])
                have HX := hid HKX
                have h256' := hid h256
                clear HKX HK TI A6 A7 AB few h256 hl8 hk8 hh1 hh2
                have HI8 := hid hi8
                clear hi8
                go_wp2_with (fail)
                rename_i aK2
                have HK2 := hid aK2
                clear aK2
                refine wp_mono (P12.out K1 (K1 + 1) (K1 + 1 + 1) K4 _ w8 ⟨rfl, rfl, rfl, rfl, rfl, rfl, rfl, rfl⟩ HV8.out HS8.out.t HS8.out.e.cell) ?_
                rintro e A w9 hh
                cases e with
                | normal =>
                  obtain ⟨T9, df⟩ := A
                  obtain ⟨hd, s9, e13, b9, K5, e12, r5, l5⟩ := hh
                  dsimp only at hd s9 e13 e12
                  subst hd
                  have HV9 := hid (HV8.out.below b9)
                  have B9 := hid (bstep B8.out b9)
                  have HS9 := hid (HS8.out.below b9)
                  have R5 := hid r5
                  have L5 := hid (show w.heap.size ≤ K5 from Nat.le_trans B8.out.size l5)
                  refine HK2.out _ _ ?_
                  rw [frameH s9.size, s9.t0, s9.t4, s9.t6, s9.t7, s9.t8, s9.t10, s9.t11, e12, e13]
                  clear HV8 HS8 B8 b9 e12 e13 s9 HK2 r5 l5 P12
                  obtain ⟨o, ho⟩ : ∃ o, M no = o := ⟨_, rfl⟩
                  have HO := hid ho
                  rw [ho] at R5 HX ⊢
                  clear ho
                  cases o with
                  | none =>
                    go_wp2_with (fail)
                    go_ret
                    exact HandRes.bad HS.out B9.out HX.out (by decide)
                  | some q =>
                    replace HX := hid (show kc = if (pickA a b).id ≠ q.id then 60 else (handU M a b no h).2 from HX.out)
                    replace R5 := hid (show w9.heap[K5]? = some (.cells q.cells.toArray 48 (0, 0)) from R5.out)
                    have QOK := hid (HS.out.t.ok no q HO.out)
                    have ra := row_range HV9.out.r1
                    have rb := row_range HV9.out.r2
                    have rn := row_range HV9.out.r3
                    have unL := Tryd.underlying42
                    have unF := Tryd.underlying62
                    have hla := hid (infoLl HA.out)
                    have hlb := hid (infoLl HB.out)
                    have hln := hid (show (Tryd.prog.info? 27).map (·.size) = some (nums .u8 no).length by rw [nums_length, HNO.out.1]; exact infoH)
                    have hbf := built_fw HA.out HB.out HNO.out.1
                    have fok : Fw.ok ⟨a, b, no, 0, hz32, 0⟩ := ⟨HA.out, HB.out, HNO.out.1, HNO.out.2, (by decide : (0 : Nat) < 18446744073709551616), hz32_ok.1, hz32_ok.2, (by decide : (Lit.int .i64 0).wf = true)⟩
                    have hfa := hid (infoFa fok)
                    have hfz := hid (zF_as fok)
                    have hfo := hid (all_oneCell_toArray (Fw.one ⟨a, b, no, 0, hz32, 0⟩))
                    obtain ⟨f0, hf0⟩ : ∃ f0, f0 = (⟨a, b, no, 0, hz32, 0⟩ : Fw) := ⟨_, rfl⟩
                    rw [← hf0] at hbf hfa hfz hfo fok
                    have F0 := hid hf0
                    have FOK := hid fok
                    clear hf0 fok
                    have ZF := zeroF
                    have hneF := zF_ne
                    have hmf : ∀ (fn : Fn) (first cap : Array Value) (w : World), (Instr.makeFunc fn first cap).run Tryd.prog w = .ok (.func fn first cap) w := fun _ _ _ _ => rfl
                    have LF := laid w9 zF f0.cells.toArray 62
                    go_upto_region 15 with (fail)
                    go_upto_region 16 with (first | with_reducible refine wpList_load_mid rfl _ _ rfl K1 0 rfl a.cells _ ra unL rfl hla.out ?_ | with_reducible refine wpList_load_mid rfl _ _ rfl (K1 + 1) 0 rfl b.cells _ rb unL rfl hlb.out ?_ | with_reducible refine wpList_load_mid rfl _ _ rfl (K1 + 1 + 1) 0 rfl (nums .u8 no) _ rn un rfl hln.out ?_ | refine wpList_build3 rfl _ _ _ _ rfl hbf rfl rfl rfl ?_ | (with_reducible refine wpList_store_row rfl _ _ _ rfl w9.heap.size f0.cells.toArray rfl rfl _ _ (heap_alloc_new w9 _) hfa.out hfz.out hfo.out ?_; generalize (w9.alloc (Obj.cells zF 62)).setRow w9.heap.size f0.cells.toArray = w10 at *))
                    have RF := hid LF.1
                    have B10 := hid (bstep B9.out LF.2)
                    have HV10 := hid (HV9.out.below LF.2)
                    have HS10 := hid (HS9.out.below LF.2)
                    have R5' := hid (heap_keep R5.out LF.2)
                    obtain ⟨KF, hKF⟩ : ∃ KF, KF = w9.heap.size := ⟨_, rfl⟩
                    rw [← hKF] at RF ⊢
                    have LKF := hid (show w.heap.size ≤ KF from by rw [hKF]; exact B9.out.size)
                    have LT5 := hid (show K5 < KF from by rw [hKF]; exact (Array.getElem?_eq_some_iff.1 R5.out).1)
                    have KF1 := hid (show K4 < KF from by rw [hKF]; exact (Array.getElem?_eq_some_iff.1 HV9.out.r4).1)
                    have d1 : w10.cell? ⟨eb, 1, none⟩ = some (.pointer (some ⟨tb, 0, none⟩)) := gen_cell (j := 1) (row_range (L := [.int .i64 dl, .pointer (some ⟨tb, 0, none⟩), v]) HS10.out.e.cell) rfl
                    clear LF hKF ra rb rn ZF hneF hbf hfa hfz hfo HV9 HS9 B9 R5
                    go_wp2_with (fail)
                    rename_i aK3
                    have HK3 := hid aK3
                    clear aK3
                    refine wp_mono (P17.out K1 (K1 + 1) (K1 + 1 + 1) K4 (.pointer (some ⟨K5, 0, none⟩)) (.pointer (some ⟨KF, 0, none⟩)) (.func (.func 19) #[.pointer (some ⟨tb, 0, none⟩)] #[]) _ w10 ⟨rfl, rfl, rfl, rfl, rfl, rfl, rfl, rfl⟩ HV10.out rfl rfl rfl) ?_
                    rintro e A w11 hh
                    cases e with
                    | normal =>
                      obtain ⟨T11, df⟩ := A
                      obtain ⟨hd, s11, e12, e14, e15, b11, K6, K7, e16, e17, r6, r7, l6, l7, n67⟩ := hh
                      dsimp only at hd s11 e12 e14 e15 e16 e17
                      subst hd
                      refine HK3.out _ _ ?_
                      rw [frameH s11.size, s11.t0, s11.t4, s11.t6, s11.t7, s11.t8, s11.t10, s11.t11, e12, e14, e15, e16, e17]
                      have HV11 := hid (HV10.out.below b11)
                      have B11 := hid (bstep B10.out b11)
                      have HS11 := hid (HS10.out.below b11)
                      have RF1 := hid (heap_keep RF.out b11)
                      have R51 := hid (heap_keep R5'.out b11)
                      have R61 := hid r6
                      have R71 := hid r7
                      have N67 := hid n67
                      have S10 := hid (show KF < w10.heap.size from (Array.getElem?_eq_some_iff.1 RF.out).1)
                      have L67 := hid (show w10.heap.size ≤ K6 ∧ w10.heap.size ≤ K7 from ⟨l6, l7⟩)
                      have NE67 := hid (show K6 ≠ KF ∧ K7 ≠ KF from by have := S10.out; omega)
                      have NE3 := hid (show K1 + 1 + 1 ≠ KF from by have := KF1.out; have := KS.out; omega)
                      have NEM := hid (show KF ≠ mb from by have := LKF.out; have := HS.out.lt; omega)
                      have z4 := row_range HV11.out.r4
                      have i1 : w11.rangeAt K1 3 (nums .u8 a.o.id) := by have := (a.hasO.trans a.o.hasId).rng (row_range HV11.out.r1); exact this
                      have hai := hid (show (Tryd.prog.info? 27).map (·.size) = some (nums .u8 a.o.id).length by rw [nums_length, HA.out.o.il]; exact infoH)
                      have hz4 := hid (show (Tryd.prog.info? 27).map (·.size) = some (nums .u8 hz32).length by kernel_rfl)
                      have q1 := eql_hv (xs := a.o.id) (ys := hz32) HA.out.o.il hz32_ok.1 HA.out.o.ib hz32_ok.2
                      have g1 := guard_hv a.o.id hz32
                      unfold hv at q1 g1
                      obtain ⟨b1, hb1⟩ : ∃ b1, decide (a.o.id = hz32) = b1 := ⟨_, rfl⟩
                      rw [hb1] at q1
                      have B1H := hid hb1
                      clear hb1 s11 e12 e14 e15 e16 e17 r6 r7 l6 l7 n67 b11 HK3 HV10 HS10 B10 RF R5' d1 P17
                      cases b1 with
                      | false =>
                        have B1H := hid (of_decide_eq_false B1H.out)
                        go_upto_region 21 with (first | with_reducible refine wpList_load_mid rfl _ _ rfl K1 3 rfl (nums .u8 a.o.id) _ i1 un rfl hai.out ?_ | with_reducible refine wpList_load_mid rfl _ _ rfl K4 0 rfl (nums .u8 hz32) _ z4 un rfl hz4.out ?_)
                        clear q1 g1 i1 z4 hai hz4
                        have HV12 := HV11
                        have B12 := B11
                        have HS12 := HS11
                        have RF := RF1
                        have R5' := R51
                        have R6 := R61
                        have R7 := R71
                        clear HV11 B11 HS11 RF1 R51 R61 R71
                        have IDR := hid (show pickA a b = a.o ∧ pickB a b = b.o from by unfold pickA pickB; rw [if_neg B1H.out, if_neg B1H.out]; exact ⟨rfl, rfl⟩)
                        have xok := hid (show Ofr.ok a.o from HA.out.o)
                        have yok := hid (show Ofr.ok b.o from HB.out.o)
                        have HUU := hid (show handU M a b no h = useS (some q) false h a.o.am (fun rc ru => payB a.o.am rc b.o.am ru) from by unfold handU; rw [if_neg B1H.out, HO.out, IDR.out.1, IDR.out.2])
                        have TW := fun wx (hx : TabAt wx tb mb M n) => hid (tsell_walk tb mb n M no HNO.out h a.o.am b.o.am xok.out.ab yok.out.ab wx hx)
                        rw [HO.out] at TW
                        obtain ⟨r, hr⟩ : ∃ r, useS (some q) false h a.o.am (fun rc ru => payB a.o.am rc b.o.am ru) = r := ⟨_, rfl⟩
                        rw [hr] at TW HUU
                        clear hr
                        have x2 : w11.rangeAt K6 2 (nums .u8 a.o.id) := by have := (Ofr.hasId a.o).rng (row_range R6.out); exact this
                        have x34 : w11.cell? ⟨K6, 34, none⟩ = some (.int .u64 (a.o.am : Int)) := (Ofr.hasAm xok.out).one (row_range R6.out)
                        have y34 : w11.cell? ⟨K7, 34, none⟩ = some (.int .u64 (b.o.am : Int)) := (Ofr.hasAm yok.out).one (row_range R7.out)
                        have qid : w11.rangeAt K5 32 (nums .u8 q.id) := by have := gen_range (row_range R5'.out) 32 32; rwa [Quo.id_at QOK.out] at this
                        have hxi := hid (show (Tryd.prog.info? 27).map (·.size) = some (nums .u8 a.o.id).length by rw [nums_length, xok.out.il]; exact infoH)
                        have hqi := hid (show (Tryd.prog.info? 27).map (·.size) = some (nums .u8 q.id).length by rw [nums_length, QOK.out.il]; exact infoH)
                        have nq := neq_hv (xs := a.o.id) (ys := q.id) xok.out.il QOK.out.il xok.out.ib QOK.out.ib
                        have ng := guard_hv a.o.id q.id
                        unfold hv at nq ng
                        obtain ⟨bi, hbi⟩ : ∃ bi, decide (a.o.id = q.id) = bi := ⟨_, rfl⟩
                        rw [hbi] at nq
                        have BI := hid hbi
                        clear hbi
                        cases bi with
                        | false =>
                          go_wp2_with (first | with_reducible refine wpList_load_mid rfl _ _ rfl K6 2 rfl (nums .u8 a.o.id) _ x2 un rfl hxi.out ?_ | with_reducible refine wpList_load_mid rfl _ _ rfl K5 32 rfl (nums .u8 q.id) _ qid un rfl hqi.out ?_)
                          go_ret
                          exact HandRes.bad HS.out B12.out (HX.out.trans (by rw [IDR.out.1, if_pos (of_decide_eq_false BI.out)])) (by decide)
                        | true =>
                          have HX2 := hid (show kc = r.2 from HX.out.trans (by rw [IDR.out.1, if_neg (fun h => h (of_decide_eq_true BI.out)), HUU.out]))
                          have f170 : w11.cell? ⟨KF, 170, none⟩ = some (.int .u64 (f0.units : Int)) := (Fw.hasUnits FOK.out).one (row_range RF.out)
                          have z170 : w11.frozen? ⟨KF, 170, none⟩ = false := frozen_of_row _ _ _ _ _ RF.out
                          have X34 := hid x34
                          have Y34 := hid y34
                          go_upto_region 24 with (first | with_reducible refine wpList_load_mid rfl _ _ rfl K6 2 rfl (nums .u8 a.o.id) _ x2 un rfl hxi.out ?_ | with_reducible refine wpList_load_mid rfl _ _ rfl K5 32 rfl (nums .u8 q.id) _ qid un rfl hqi.out ?_)
                          have RF2 := hid (heap_set (i := 170) (.int .u64 (a.o.am : Int)) RF.out)
                          have FF2 := hid (Far.set (H := KF) (j := 170) (w := w11) (.int .u64 (a.o.am : Int)))
                          generalize hw13 : w11.setCell ⟨KF, 170, none⟩ (.int .u64 (a.o.am : Int)) = w13 at *
                          replace RF2 := hid (show w13.heap[KF]? = some (.cells (newF a b no).cells.toArray 62 (0, 0)) from by
                            have h1 := RF2.out
                            rw [h1, Fw.setUnits FOK.out, F0.out]
                            unfold newF
                            rw [IDR.out.1])
                          clear hw13 x2 x34 y34 qid f170 z170 nq ng hxi hqi
                          have B13 := hid (B12.out.trans (FF2.out.below LKF.out B12.out.size))
                          have HS13 := hid (HS12.out.fresh FF2.out (Nat.le_trans HS.out.lt.2.2 LKF.out) (fun g hg => by have := (HS.out.e.own.lt g hg).2; have := LKF.out; omega))
                          have x34 := far_cell' X34.out FF2.out NE67.out.1
                          have y34 := far_cell' Y34.out FF2.out NE67.out.2
                          have rn := row_range (heap_far HV12.out.r3 FF2.out NE3.out)
                          clear X34 Y34
                          go_wp2_with (with_reducible refine wpList_load_mid rfl _ _ rfl (K1 + 1 + 1) 0 rfl (nums .u8 no) _ rn un rfl hln.out ?_)
                          refine (TW w13 HS13.out.t).out.mono ?_
                          rintro e w14 ⟨rfl, t14, f14⟩
                          have T14 := hid t14
                          have F14 := hid f14
                          have RF3 := hid (heap_far RF2.out f14 NEM.out)
                          clear t14 f14 x34 y34 rn TW
                          by_cases hr0 : r.2 = 0
                          case neg =>
                            have tz : (((r.2 : Nat) : Int) != 0) = true := by simp; exact hr0
                            have T15 := hid (resM_bad hr0 T14.out)
                            have R0 := hid hr0
                            obtain ⟨k0, hk0⟩ : ∃ k0, r.2 = k0 := ⟨_, rfl⟩
                            rw [hk0] at tz ⊢
                            have HK0 := hid hk0
                            clear hr0 hk0
                            go_wp2_with (fail)
                            go_ret
                            have kk : kc = k0 := HX2.out.trans HK0.out
                            refine ⟨by rw [kk]; rfl, v, ?_, ?_, Newer.refl _ _⟩
                            · unfold handL handM
                              have : kc ≠ 0 := by rw [HX2.out]; exact R0.out
                              rw [if_neg this, if_neg this]
                              exact HS13.out.tab T15.out F14.out
                            · exact (Keep.of B13.out).trans (Keep.far F14.out (.inr (.inl rfl)))
                          have tz : (((r.2 : Nat) : Int) != 0) = false := by simp [hr0]
                          have T15 := hid (resM_good hr0 T14.out)
                          have R0 := hid hr0
                          have HS14 := hid (HS13.out.tab T15.out F14.out)
                          have NFK := hid (show (newF a b no).ok from ⟨HA.out, HB.out, HNO.out.1, HNO.out.2, by unfold newF; rw [IDR.out.1]; exact xok.out.ab, hz32_ok.1, hz32_ok.2, (by decide : (Lit.int .i64 0).wf = true)⟩)
                          clear hr0
                          go_wp2_with (fail)
                          rename_i aK9
                          have HK9 := hid aK9
                          clear aK9
                          refine wp_mono (P27.out K1 (K1 + 1) (K1 + 1 + 1) K4 KF (newF a b no) _ w14 ⟨rfl, rfl, rfl, rfl, rfl, rfl, rfl, rfl⟩ (by rfl) HS14.out.e (by have := h256'.out; omega) HS14.out.lt.2.2 RF3.out NFK.out) ?_
                          rintro e A w15 hh
                          cases e with
                          | normal =>
                            obtain ⟨T15', df⟩ := A
                            obtain ⟨hd, s15, k15, v15, e15', n15⟩ := hh
                            dsimp only at hd s15
                            subst hd
                            refine HK9.out _ _ ?_
                            rw [frameH s15.size, s15.t10]
                            have K15 := hid k15
                            have E15 := hid e15'
                            have N15 := hid n15
                            clear s15 k15 e15' n15 HK9
                            go_wp2_with (fail)
                            go_ret
                            have kk : kc = 0 := HX2.out.trans R0.out
                            have kw := (Keep.of (S := ShopS eb mb v) B13.out).trans (Keep.far F14.out (.inr (.inl rfl)))
                            have kw2 := kw.trans (K15.out.mono (R := ShopS eb mb v) (fun i hi => hi.elim .inl (fun h => .inr (.inr h))))
                            refine ⟨by rw [kk]; rfl, v15, ?_, kw2, ?_⟩
                            · unfold handL handM
                              rw [if_pos kk, if_pos kk, HUU.out]
                              refine ⟨E15.out, HS14.out.t.keep K15.out ?_ ?_, HS.out.ne, HS.out.lt.1, HS.out.lt.2.1, Nat.le_trans HS.out.lt.2.2 kw2.size⟩
                              · rintro (h | h)
                                · exact HS.out.ne.1 h.symm
                                · have := (HS.out.e.own.lt _ h).1; have := HS.out.lt; omega
                              · rintro (h | h)
                                · exact HS.out.ne.2 h.symm
                                · have := (HS.out.e.own.lt _ h).1; have := HS.out.lt; omega
                            · rcases N15.out with h | h
                              · exact .inl h
                              · exact .inr (fun g hg => Nat.le_trans kw.size (h g hg))
                          | _ => exact hh.elim
                      | true =>
                        have B1H := hid (of_decide_eq_true B1H.out)
                        have d1 : w11.cell? ⟨eb, 1, none⟩ = some (.pointer (some ⟨tb, 0, none⟩)) := gen_cell (j := 1) (row_range (L := [.int .i64 dl, .pointer (some ⟨tb, 0, none⟩), v]) HS11.out.e.cell) rfl
                        go_wp2_with (first | with_reducible refine wpList_load_mid rfl _ _ rfl K1 3 rfl (nums .u8 a.o.id) _ i1 un rfl hai.out ?_ | with_reducible refine wpList_load_mid rfl _ _ rfl K4 0 rfl (nums .u8 hz32) _ z4 un rfl hz4.out ?_)
                        clear q1 g1 i1 z4 hai hz4 d1
                        rename_i aK4
                        have HK4 := hid aK4
                        clear aK4
                        refine wp_mono (P20.out K1 (K1 + 1) (K1 + 1 + 1) K4 K6 K7 (.pointer (some ⟨K5, 0, none⟩)) (.pointer (some ⟨KF, 0, none⟩)) (.func (.func 20) #[.pointer (some ⟨tb, 0, none⟩)] #[]) _ w11 ⟨rfl, rfl, rfl, rfl, rfl, rfl, rfl, rfl⟩ HV11.out rfl rfl rfl rfl rfl R61.out R71.out N67.out (by have := S10.out; have := L67.out; have := KF1.out; have := KS.out; omega) (by have := S10.out; have := L67.out; have := KF1.out; have := KS.out; omega)) ?_
                        rintro e A w12 hh
                        cases e with
                        | normal =>
                          obtain ⟨T12, df⟩ := A
                          obtain ⟨hd, s12, e12, e14, e15, e16, e17, k12, r6, r7⟩ := hh
                          dsimp only at hd s12 e12 e14 e15 e16 e17
                          subst hd
                          refine HK4.out _ _ ?_
                          rw [frameH s12.size, s12.t0, s12.t4, s12.t6, s12.t7, s12.t8, s12.t10, s12.t11, e12, e14, e15, e16, e17]
                          have HV12 := hid (HV11.out.keep k12 (by have := S10.out; have := L67.out; have := KF1.out; have := KS.out; omega) (by have := S10.out; have := L67.out; have := KF1.out; have := KS.out; omega) (by have := S10.out; have := L67.out; have := KF1.out; have := KS.out; omega) (by have := S10.out; have := L67.out; have := KF1.out; have := KS.out; omega))
                          have GE := hid (show ∀ i, i = K6 ∨ i = K7 → w.heap.size ≤ i from by have := S10.out; have := L67.out; have := LKF.out; intro i hi; omega)
                          have B12 := hid (B11.out.trans (k12.below GE.out B11.out.size))
                          have HS12 := hid (HS11.out.kept k12 (fun i hi => Nat.le_trans HS.out.lt.2.2 (GE.out i hi)) (fun g hg hi => by have := (HS.out.e.own.lt g hg).2; have := GE.out g hi; omega))
                          have RF := hid (k12.heap RF1.out (by have := S10.out; have := L67.out; omega))
                          have R5' := hid (k12.heap R51.out (by have := S10.out; have := L67.out; have := LT5.out; omega))
                          have R6 := hid r6
                          have R7 := hid r7
                          clear s12 e12 e14 e15 e16 e17 k12 r6 r7 HK4 HV11 HS11 B11 RF1 R51 R61 R71 P20
                          have IDR := hid (show pickA a b = b.o ∧ pickB a b = a.o from by unfold pickA pickB; rw [if_pos B1H.out, if_pos B1H.out]; exact ⟨rfl, rfl⟩)
                          have xok := hid (show Ofr.ok b.o from HB.out.o)
                          have yok := hid (show Ofr.ok a.o from HA.out.o)
                          have HUU := hid (show handU M a b no h = useS (some q) true h b.o.am (fun rc ru => payB a.o.am ru b.o.am rc) from by unfold handU; rw [if_pos B1H.out, HO.out, IDR.out.1, IDR.out.2])
                          have TW := fun wx (hx : TabAt wx tb mb M n) => hid (tbuy_walk tb mb n M no HNO.out h b.o.am a.o.am xok.out.ab yok.out.ab wx hx)
                          rw [HO.out] at TW
                          obtain ⟨r, hr⟩ : ∃ r, useS (some q) true h b.o.am (fun rc ru => payB a.o.am ru b.o.am rc) = r := ⟨_, rfl⟩
                          rw [hr] at TW HUU
                          clear hr
                          have x2 : w12.rangeAt K6 2 (nums .u8 b.o.id) := by have := (Ofr.hasId b.o).rng (row_range R6.out); exact this
                          have x34 : w12.cell? ⟨K6, 34, none⟩ = some (.int .u64 (b.o.am : Int)) := (Ofr.hasAm xok.out).one (row_range R6.out)
                          have y34 : w12.cell? ⟨K7, 34, none⟩ = some (.int .u64 (a.o.am : Int)) := (Ofr.hasAm yok.out).one (row_range R7.out)
                          have qid : w12.rangeAt K5 32 (nums .u8 q.id) := by have := gen_range (row_range R5'.out) 32 32; rwa [Quo.id_at QOK.out] at this
                          have hxi := hid (show (Tryd.prog.info? 27).map (·.size) = some (nums .u8 b.o.id).length by rw [nums_length, xok.out.il]; exact infoH)
                          have hqi := hid (show (Tryd.prog.info? 27).map (·.size) = some (nums .u8 q.id).length by rw [nums_length, QOK.out.il]; exact infoH)
                          have nq := neq_hv (xs := b.o.id) (ys := q.id) xok.out.il QOK.out.il xok.out.ib QOK.out.ib
                          have ng := guard_hv b.o.id q.id
                          unfold hv at nq ng
                          obtain ⟨bi, hbi⟩ : ∃ bi, decide (b.o.id = q.id) = bi := ⟨_, rfl⟩
                          rw [hbi] at nq
                          have BI := hid hbi
                          clear hbi
                          cases bi with
                          | false =>
                            go_wp2_with (first | with_reducible refine wpList_load_mid rfl _ _ rfl K6 2 rfl (nums .u8 b.o.id) _ x2 un rfl hxi.out ?_ | with_reducible refine wpList_load_mid rfl _ _ rfl K5 32 rfl (nums .u8 q.id) _ qid un rfl hqi.out ?_)
                            go_ret
                            exact HandRes.bad HS.out B12.out (HX.out.trans (by rw [IDR.out.1, if_pos (of_decide_eq_false BI.out)])) (by decide)
                          | true =>
                            have HX2 := hid (show kc = r.2 from HX.out.trans (by rw [IDR.out.1, if_neg (fun h => h (of_decide_eq_true BI.out)), HUU.out]))
                            have f170 : w12.cell? ⟨KF, 170, none⟩ = some (.int .u64 (f0.units : Int)) := (Fw.hasUnits FOK.out).one (row_range RF.out)
                            have z170 : w12.frozen? ⟨KF, 170, none⟩ = false := frozen_of_row _ _ _ _ _ RF.out
                            have X34 := hid x34
                            have Y34 := hid y34
                            go_upto_region 24 with (first | with_reducible refine wpList_load_mid rfl _ _ rfl K6 2 rfl (nums .u8 b.o.id) _ x2 un rfl hxi.out ?_ | with_reducible refine wpList_load_mid rfl _ _ rfl K5 32 rfl (nums .u8 q.id) _ qid un rfl hqi.out ?_)
                            have RF2 := hid (heap_set (i := 170) (.int .u64 (b.o.am : Int)) RF.out)
                            have FF2 := hid (Far.set (H := KF) (j := 170) (w := w12) (.int .u64 (b.o.am : Int)))
                            generalize hw13 : w12.setCell ⟨KF, 170, none⟩ (.int .u64 (b.o.am : Int)) = w13 at *
                            replace RF2 := hid (show w13.heap[KF]? = some (.cells (newF a b no).cells.toArray 62 (0, 0)) from by
                              have h1 := RF2.out
                              rw [h1, Fw.setUnits FOK.out, F0.out]
                              unfold newF
                              rw [IDR.out.1])
                            clear hw13 x2 x34 y34 qid f170 z170 nq ng hxi hqi
                            have B13 := hid (B12.out.trans (FF2.out.below LKF.out B12.out.size))
                            have HS13 := hid (HS12.out.fresh FF2.out (Nat.le_trans HS.out.lt.2.2 LKF.out) (fun g hg => by have := (HS.out.e.own.lt g hg).2; have := LKF.out; omega))
                            have x34 := far_cell' X34.out FF2.out NE67.out.1
                            have y34 := far_cell' Y34.out FF2.out NE67.out.2
                            have rn := row_range (heap_far HV12.out.r3 FF2.out NE3.out)
                            clear X34 Y34
                            go_wp2_with (with_reducible refine wpList_load_mid rfl _ _ rfl (K1 + 1 + 1) 0 rfl (nums .u8 no) _ rn un rfl hln.out ?_)
                            refine (TW w13 HS13.out.t).out.mono ?_
                            rintro e w14 ⟨rfl, t14, f14⟩
                            have T14 := hid t14
                            have F14 := hid f14
                            have RF3 := hid (heap_far RF2.out f14 NEM.out)
                            clear t14 f14 x34 y34 rn TW
                            by_cases hr0 : r.2 = 0
                            case neg =>
                              have tz : (((r.2 : Nat) : Int) != 0) = true := by simp; exact hr0
                              have T15 := hid (resM_bad hr0 T14.out)
                              have R0 := hid hr0
                              obtain ⟨k0, hk0⟩ : ∃ k0, r.2 = k0 := ⟨_, rfl⟩
                              rw [hk0] at tz ⊢
                              have HK0 := hid hk0
                              clear hr0 hk0
                              go_wp2_with (fail)
                              go_ret
                              have kk : kc = k0 := HX2.out.trans HK0.out
                              refine ⟨by rw [kk]; rfl, v, ?_, ?_, Newer.refl _ _⟩
                              · unfold handL handM
                                have : kc ≠ 0 := by rw [HX2.out]; exact R0.out
                                rw [if_neg this, if_neg this]
                                exact HS13.out.tab T15.out F14.out
                              · exact (Keep.of B13.out).trans (Keep.far F14.out (.inr (.inl rfl)))
                            have tz : (((r.2 : Nat) : Int) != 0) = false := by simp [hr0]
                            have T15 := hid (resM_good hr0 T14.out)
                            have R0 := hid hr0
                            have HS14 := hid (HS13.out.tab T15.out F14.out)
                            have NFK := hid (show (newF a b no).ok from ⟨HA.out, HB.out, HNO.out.1, HNO.out.2, by unfold newF; rw [IDR.out.1]; exact xok.out.ab, hz32_ok.1, hz32_ok.2, (by decide : (Lit.int .i64 0).wf = true)⟩)
                            clear hr0
                            go_wp2_with (fail)
                            rename_i aK9
                            have HK9 := hid aK9
                            clear aK9
                            refine wp_mono (P27.out K1 (K1 + 1) (K1 + 1 + 1) K4 KF (newF a b no) _ w14 ⟨rfl, rfl, rfl, rfl, rfl, rfl, rfl, rfl⟩ (by rfl) HS14.out.e (by have := h256'.out; omega) HS14.out.lt.2.2 RF3.out NFK.out) ?_
                            rintro e A w15 hh
                            cases e with
                            | normal =>
                              obtain ⟨T15', df⟩ := A
                              obtain ⟨hd, s15, k15, v15, e15', n15⟩ := hh
                              dsimp only at hd s15
                              subst hd
                              refine HK9.out _ _ ?_
                              rw [frameH s15.size, s15.t10]
                              have K15 := hid k15
                              have E15 := hid e15'
                              have N15 := hid n15
                              clear s15 k15 e15' n15 HK9
                              go_wp2_with (fail)
                              go_ret
                              have kk : kc = 0 := HX2.out.trans R0.out
                              have kw := (Keep.of (S := ShopS eb mb v) B13.out).trans (Keep.far F14.out (.inr (.inl rfl)))
                              have kw2 := kw.trans (K15.out.mono (R := ShopS eb mb v) (fun i hi => hi.elim .inl (fun h => .inr (.inr h))))
                              refine ⟨by rw [kk]; rfl, v15, ?_, kw2, ?_⟩
                              · unfold handL handM
                                rw [if_pos kk, if_pos kk, HUU.out]
                                refine ⟨E15.out, HS14.out.t.keep K15.out ?_ ?_, HS.out.ne, HS.out.lt.1, HS.out.lt.2.1, Nat.le_trans HS.out.lt.2.2 kw2.size⟩
                                · rintro (h | h)
                                  · exact HS.out.ne.1 h.symm
                                  · have := (HS.out.e.own.lt _ h).1; have := HS.out.lt; omega
                                · rintro (h | h)
                                  · exact HS.out.ne.2 h.symm
                                  · have := (HS.out.e.own.lt _ h).1; have := HS.out.lt; omega
                              · rcases N15.out with h | h
                                · exact .inl h
                                · exact .inr (fun g hg => Nat.le_trans kw.size (h g hg))
                            | _ => exact hh.elim
                        | _ => exact hh.elim
                    | _ => exact hh.elim
                | _ => exact hh.elim
            | _ => exact hh.elim
  | _ => exact hh.elim
end Go.Proofs.YthccjefhlmngbaaDoor
