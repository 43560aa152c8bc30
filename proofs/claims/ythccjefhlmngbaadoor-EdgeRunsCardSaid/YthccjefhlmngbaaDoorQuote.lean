/- Contracts of package quote: Check, ToCoins, ToUnits, Pays, Buys, Cmp. -/
import Derived.Test.YthccjefhlmngbaaDoorPart
namespace Go.Proofs.YthccjefhlmngbaaDoor
open Go.RowKit

/-- a variable of two numbers, that may be written -/
def Bx2 (w : World) (b : Nat) (c u : Nat) : Prop := w.cell? ⟨b, 0, none⟩ = some (.int .u64 (c : Int)) ∧ w.cell? ⟨b, 1, none⟩ = some (.int .u64 (u : Int)) ∧ ∀ j, w.frozen? ⟨b, j, none⟩ = false
theorem Bx2.below {w w' : World} {b c u : Nat} (h : Bx2 w b c u) (hb : Below w.heap.size w w') : Bx2 w' b c u := by
  have hlt : b < w.heap.size := World.block_lt_of_cell? w _ h.1
  exact ⟨(hb.cell (p := ⟨b, 0, none⟩) hlt).trans h.1, (hb.cell (p := ⟨b, 1, none⟩) hlt).trans h.2.1, fun j => (hb.frozen (p := ⟨b, j, none⟩) hlt).trans (h.2.2 j)⟩
theorem Bx2.new (w : World) (c u : Nat) (t : TypeId) : Bx2 (w.alloc (.cells #[.int .u64 (c : Int), .int .u64 (u : Int)] t)) w.heap.size c u :=
  ⟨by rw [cell_of_row _ w.heap.size _ _ t (0, 0) (heap_alloc_new w _)]; rfl, by rw [cell_of_row _ w.heap.size _ _ t (0, 0) (heap_alloc_new w _)]; rfl, fun j => frozen_of_row _ _ _ _ _ (heap_alloc_new w _)⟩
set_option linter.unusedSimpArgs false in
/-- two variables change their values -/
theorem Bx2.swap {B : Nat} {w0 w : World} {b e c u d v : Nat} (X : Bx2 w b c u) (Y : Bx2 w e d v) (hbe : b ≠ e) (hB : Below B w0 w) (h1 : B ≤ b) (h2 : B ≤ e) :
    let W' := ((((w.setCell ⟨b, 0, none⟩ (.int .u64 (d : Int))).setCell ⟨b, 1, none⟩ (.int .u64 (v : Int))).setCell ⟨e, 0, none⟩ (.int .u64 (c : Int))).setCell ⟨e, 1, none⟩ (.int .u64 (u : Int)))
    Bx2 W' b d v ∧ Bx2 W' e c u ∧ Below B w0 W' := by
  obtain ⟨x0, x1, x2⟩ := X
  obtain ⟨y0, y1, y2⟩ := Y
  have hbe' := Ne.symm hbe
  refine ⟨⟨?_, ?_, fun j => ?_⟩, ⟨?_, ?_, fun j => ?_⟩, (((hB.setCell h1 _).setCell h1 _).setCell h2 _).setCell h2 _⟩
  · rw [World.cell?_setCell_other _ _ _ _ (by simp [hbe, hbe']), World.cell?_setCell_other _ _ _ _ (by simp [hbe, hbe']), World.cell?_setCell_other _ _ _ _ (by simp), World.cell?_setCell_same _ _ _ x0]
  · rw [World.cell?_setCell_other _ _ _ _ (by simp [hbe, hbe']), World.cell?_setCell_other _ _ _ _ (by simp [hbe, hbe']), World.cell?_setCell_same (u := .int .u64 (u : Int)) _ _ _ (by rw [World.cell?_setCell_other _ _ _ _ (by simp)]; exact x1)]
  · simpa using x2 j
  · rw [World.cell?_setCell_other _ _ _ _ (by simp), World.cell?_setCell_same (u := .int .u64 (d : Int)) _ _ _ (by rw [World.cell?_setCell_other _ _ _ _ (by simp [hbe, hbe']), World.cell?_setCell_other _ _ _ _ (by simp [hbe, hbe'])]; exact y0)]
  · rw [World.cell?_setCell_same (u := .int .u64 (v : Int)) _ _ _ (by rw [World.cell?_setCell_other _ _ _ _ (by simp), World.cell?_setCell_other _ _ _ _ (by simp [hbe, hbe']), World.cell?_setCell_other _ _ _ _ (by simp [hbe, hbe'])]; exact y1)]
  · simpa using y2 j
abbrev rateV (c u : Nat) : Value := .agg #[.int .u64 (c : Int), .int .u64 (u : Int)]
def chk (c u : Nat) : Int := if c = 0 ∨ u = 0 then 60 else 0
def IntB (w : World) (r : Int) (e : Ending) (w' : World) : Prop := e = .returned (.int .i64 r) ∧ Below w.heap.size w w'

theorem check_walk (c u : Nat) (w : World) : Calls Tryd.prog 42 #[rateV c u] w (IntB w (chk c u)) := by
  have bb := (Below.refl w.heap.size w).alloc (Nat.le_refl _) (.cells #[.int .u64 (c : Int), .int .u64 (u : Int)] 30)
  have F := fun r (h : chk c u = r) => (⟨by rw [h], bb⟩ : IntB w (chk c u) (.returned (.int .i64 r)) _)
  by_cases h1 : c = 0
  · subst h1
    have FF := hid (F 60 (by simp [chk]))
    clear F bb
    go_enter Tryd.func42, Tryd.ntmps42
    go_wp2
    go_ret
    exact FF.out
  · have t1 : ((c : Int) == 0) = false := by simp; omega
    by_cases h2 : u = 0
    · subst h2
      have FF := hid (F 60 (by simp [chk]))
      clear F bb
      go_enter Tryd.func42, Tryd.ntmps42
      go_wp2
      go_ret
      exact FF.out
    · have t2 : ((u : Int) == 0) = false := by simp; omega
      have FF := hid (F 0 (by simp [chk, h1, h2]))
      clear F bb
      go_enter Tryd.func42, Tryd.ntmps42
      go_wp2
      go_ret
      exact FF.out

def toV (n a b : Nat) (up : Bool) : Value := if a = 0 ∨ b = 0 then .tuple #[.int .u64 0, .int .i64 60] else partV n a b up
def ToRes (w : World) (n a b : Nat) (up : Bool) (e : Ending) (w' : World) : Prop := e = .returned (toV n a b up) ∧ Below w.heap.size w w'
theorem partV_shape (a n d : Nat) (up : Bool) : ∃ (x : Nat) (er : Int), partV a n d up = .tuple #[.int .u64 (x : Int), .int .i64 er] := by
  by_cases h0 : d = 0
  · subst h0; exact ⟨0, 12, rfl⟩
  · by_cases h1 : partN a n d up < 18446744073709551616
    · exact ⟨_, _, partV_yes h0 h1⟩
    · exact ⟨0, 10, partV_no h0 h1⟩

def payB (n c d u : Nat) : Bool := if c = 0 ∨ u = 0 then false else decide (d * u ≤ n * c)
def BoolB (w : World) (r : Bool) (e : Ending) (w' : World) : Prop := e = .returned (.bool r) ∧ Below w.heap.size w w'
set_option maxHeartbeats 400000 in
theorem pays_walk (c u n d : Nat) (hc : c < 18446744073709551616) (hu : u < 18446744073709551616) (hn : n < 18446744073709551616) (hd : d < 18446744073709551616) (w : World) :
    Calls Tryd.prog 34 #[rateV c u, .int .u64 n, .int .u64 d] w (BoolB w (payB n c d u)) := by
  have bb := (Below.refl w.heap.size w).alloc (Nat.le_refl _) (.cells #[.int .u64 (c : Int), .int .u64 (u : Int)] 30)
  have bx := Bx2.new w c u 30
  have C1 := fun wx => hid (check_walk c u wx)
  have C2 := fun wx => hid (covers_walk n c d u hn hc hd hu wx)
  have hbs := bb.size
  have X := hid bx
  clear bx
  by_cases h : c = 0 ∨ u = 0
  · have e : chk c u = 60 := if_pos h
    have F := hid (fun w' (hb : Below w.heap.size w w') => (⟨by rw [payB, if_pos h], hb⟩ : BoolB w (payB n c d u) (.returned (.bool false)) w'))
    rw [e] at C1
    clear h e C2
    go_enter Tryd.func34, Tryd.ntmps34
    go_wp2_with fail
    refine (C1 _).out.mono ?_
    rintro e w1 ⟨rfl, b1⟩
    have b := bb.trans (b1.mono hbs)
    clear b1
    go_wp2
    go_ret
    exact F.out _ b
  · have e : chk c u = 0 := if_neg h
    have F := hid (fun w' (hb : Below w.heap.size w w') => (⟨by rw [payB, if_neg h], hb⟩ : BoolB w (payB n c d u) (.returned (.bool (decide (d * u ≤ n * c)))) w'))
    rw [e] at C1
    clear h e
    generalize decide (d * u ≤ n * c) = r at *
    go_enter Tryd.func34, Tryd.ntmps34
    go_wp2_with fail
    refine (C1 _).out.mono ?_
    rintro e w1 ⟨rfl, b1⟩
    have b := bb.trans (b1.mono hbs)
    obtain ⟨x0, x1⟩ := X.out.below b1
    clear b1
    go_wp2_with fail
    refine (C2 _).out.mono ?_
    rintro e w2 ⟨rfl, rfl⟩
    go_wp2
    go_ret
    exact F.out _ b
set_option maxHeartbeats 400000 in
theorem buys_walk (c u n d : Nat) (hc : c < 18446744073709551616) (hu : u < 18446744073709551616) (hn : n < 18446744073709551616) (hd : d < 18446744073709551616) (w : World) :
    Calls Tryd.prog 36 #[rateV c u, .int .u64 n, .int .u64 d] w (BoolB w (payB n u d c)) := by
  have bb := (Below.refl w.heap.size w).alloc (Nat.le_refl _) (.cells #[.int .u64 (c : Int), .int .u64 (u : Int)] 30)
  have bx := Bx2.new w c u 30
  have C1 := fun wx => hid (check_walk c u wx)
  have C2 := fun wx => hid (covers_walk n u d c hn hu hd hc wx)
  have hbs := bb.size
  have X := hid bx
  clear bx
  by_cases h : c = 0 ∨ u = 0
  · have e : chk c u = 60 := if_pos h
    have F := hid (fun w' (hb : Below w.heap.size w w') => (⟨by rw [payB, if_pos (or_comm.1 h)], hb⟩ : BoolB w (payB n u d c) (.returned (.bool false)) w'))
    rw [e] at C1
    clear h e C2
    go_enter Tryd.func36, Tryd.ntmps36
    go_wp2_with fail
    refine (C1 _).out.mono ?_
    rintro e w1 ⟨rfl, b1⟩
    have b := bb.trans (b1.mono hbs)
    clear b1
    go_wp2
    go_ret
    exact F.out _ b
  · have e : chk c u = 0 := if_neg h
    have F := hid (fun w' (hb : Below w.heap.size w w') => (⟨by rw [payB, if_neg (fun k => h (or_comm.1 k))], hb⟩ : BoolB w (payB n u d c) (.returned (.bool (decide (d * c ≤ n * u)))) w'))
    rw [e] at C1
    clear h e
    generalize decide (d * c ≤ n * u) = r at *
    go_enter Tryd.func36, Tryd.ntmps36
    go_wp2_with fail
    refine (C1 _).out.mono ?_
    rintro e w1 ⟨rfl, b1⟩
    have b := bb.trans (b1.mono hbs)
    obtain ⟨x0, x1⟩ := X.out.below b1
    clear b1
    go_wp2_with fail
    refine (C2 _).out.mono ?_
    rintro e w2 ⟨rfl, rfl⟩
    go_wp2
    go_ret
    exact F.out _ b
def cmpR (x y : Nat) : Int := if x < y then -1 else if y < x then 1 else 0
def rcmp (c u c' u' : Nat) : Int := if c * u' ≤ c' * u then (if c' * u ≤ c * u' then 0 else -1) else 1
end Go.Proofs.YthccjefhlmngbaaDoor
