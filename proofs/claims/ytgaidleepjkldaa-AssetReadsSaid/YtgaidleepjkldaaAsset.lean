/- Contracts of package asset: Fits; the walk of the statement AssetFits. -/
import Derived.Test.YtgaidleepjkldaaByt
import Derived.Deep.MidRow
namespace Go.Proofs.Ytgaidleepjkldaa
open Go.RowKit

def BoolB (w : World) (r : Bool) (e : Ending) (w' : World) : Prop := e = .returned (.bool r) ∧ Below w.heap.size w w'
/-- a variable of these cells -/
def Bx (w : World) (b : Nat) (cs : List Value) : Prop := w.rangeAt b 0 cs
theorem Bx.cell {w : World} {b : Nat} {cs : List Value} (h : Bx w b cs) {j : Nat} {v : Value} (hj : cs[j]? = some v) : w.cell? ⟨b, j, none⟩ = some v := by
  have := h j v hj
  rwa [Nat.zero_add] at this
theorem Bx.below {w w' : World} {b : Nat} {cs : List Value} (h : Bx w b cs) (hb : Below w.heap.size w w') : Bx w' b cs := by
  intro j v hj
  have := h j v hj
  exact (hb.cell (World.block_lt_of_cell? w _ this)).trans this
theorem Bx.newA (w : World) (cs : Array Value) (t : TypeId) : Bx (w.alloc (.cells cs t)) w.heap.size cs.toList := by
  intro j v hj
  rw [cell_of_row _ w.heap.size _ _ t (0, 0) (heap_alloc_new w _), Nat.zero_add]
  simpa using hj
theorem infoGen : (Try.prog.info? 28).map (·.size) = some 67 := by kernel_rfl
def fitsB (k : Int) (a : Nat) : Bool := decide (0 < a) && (k == 0 || (a : Int) == 1)
set_option maxHeartbeats 400000 in
theorem fits_walk (cs : Array Value) (k : Int) (a : Nat) (hk : cs[66]? = some (.int .i64 k)) (w : World) :
    Calls Try.prog 7 #[.agg cs, .int .u64 a] w (BoolB w (fitsB k a)) := by
  have bb := (Below.refl w.heap.size w).alloc (Nat.le_refl _) (.cells cs 28)
  have hc := (Bx.newA w cs 28).cell (j := 66) (v := .int .i64 k) (by simpa using hk)
  have HB := hid bb
  clear bb hk
  go_enter Try.func7, Try.ntmps7
  go_wp2
  all_goals (go_ret; exact ⟨by simp [fitsB, *], HB.out⟩)
def genZ (k : Int) : Array Value := #[.int .u8 0, .int .u8 0, .int .u8 0, .int .u8 0, .int .u8 0, .int .u8 0, .int .u8 0, .int .u8 0, .int .u8 0, .int .u8 0, .int .u8 0, .int .u8 0, .int .u8 0, .int .u8 0, .int .u8 0, .int .u8 0, .int .u8 0, .int .u8 0, .int .u8 0, .int .u8 0, .int .u8 0, .int .u8 0, .int .u8 0, .int .u8 0, .int .u8 0, .int .u8 0, .int .u8 0, .int .u8 0, .int .u8 0, .int .u8 0, .int .u8 0, .int .u8 0, .int .i64 0, .slice none 0 0, .int .u8 0, .int .u8 0, .int .u8 0, .int .u8 0, .int .u8 0, .int .u8 0, .int .u8 0, .int .u8 0, .int .u8 0, .int .u8 0, .int .u8 0, .int .u8 0, .int .u8 0, .int .u8 0, .int .u8 0, .int .u8 0, .int .u8 0, .int .u8 0, .int .u8 0, .int .u8 0, .int .u8 0, .int .u8 0, .int .u8 0, .int .u8 0, .int .u8 0, .int .u8 0, .int .u8 0, .int .u8 0, .int .u8 0, .int .u8 0, .int .u8 0, .int .u8 0, .int .i64 k]
theorem zeroGen (w : World) : (zeroValue 28).run Try.prog w = .ok (.agg (genZ 0)) w := by
  have h : (Try.prog.info? 28).map (·.zero) = some (some (.agg (genZ 0))) := by kernel_rfl
  cases hi : Try.prog.info? 28 with
  | none => rw [hi] at h; cases h
  | some i =>
    rw [hi] at h
    simp only [Option.map_some, Option.some.injEq] at h
    simp [zeroValue, typeInfo, hi, h]
theorem genZ_size : (genZ 0).size = 67 := rfl
theorem genZ_kind : (genZ 0)[66]? = some (.int .i64 0) := rfl
theorem lawFits (cs : Array Value) (k : Int) (a : Nat) (hz : cs.size = 67) (hk : cs[66]? = some (.int .i64 k)) (w : World) :
    Calls Try.prog 3 #[.agg cs, .int .u64 a] w fun e w' => e = .returned (.bool true) ∧ Below w.heap.size w w' := by
  have B0 := (Below.refl w.heap.size w).alloc (Nat.le_refl _) (.cells cs 28)
  have X0 := hid (Bx.newA w cs 28)
  have F := fun wx => hid (fits_walk cs k a hk wx)
  have ZV := zeroGen
  have z1 := genZ_size
  have z2 := genZ_kind
  generalize genZ 0 = Z at *
  have z3 : (Z.setIfInBounds 66 (.int .i64 1))[66]? = some (.int .i64 1) := by rw [Array.getElem?_setIfInBounds_self, if_pos (by omega)]
  have e1 : fitsB 0 5 = true := by decide
  have e2 : fitsB 1 5 = false := by decide
  go_enter Try.func3, Try.ntmps3
  go_wp2_with fail
  refine (fits_walk Z 0 5 z2 _).mono ?_
  rintro e w1 ⟨rfl, b1⟩
  rw [e1]
  have X1 := hid (X0.out.below b1)
  have B1 := bstep B0 b1
  clear X0 B0 b1
  go_wp2_with fail
  refine (fits_walk (Z.setIfInBounds 66 (.int .i64 1)) 1 5 z3 _).mono ?_
  rintro e w2 ⟨rfl, b2⟩
  rw [e2]
  have X2 := hid (X1.out.below b2)
  have B2 := bstep B1 b2
  clear X1 B1 b2
  have hc := X2.out.cell (j := 66) (v := .int .i64 k) (by simpa using hk)
  have hI : (Try.prog.info? 28).map (·.size) = some cs.toList.length := by rw [infoGen]; simp [hz]
  have HI := hid hI
  clear hI
  clear z1 z2 z3 ZV hk hz e1 e2
  by_cases ha : a = 0
  · have ta : ((a : Int) == 0) = true := by simp; omega
    have ef : fitsB k a = false := by subst ha; simp [fitsB]
    rw [ef] at F
    clear ha ef
    go_wp2_with (refine wpList_load_mid rfl _ _ rfl w.heap.size 0 rfl cs.toList _ X2.out Try.underlying28 rfl HI.out ?_)
    rw [Array.toArray_toList]
    go_wp2_with fail
    refine (F _).out.mono ?_
    rintro e w3 ⟨rfl, b3⟩
    have B3 := bstep B2 b3
    clear B2 b3
    go_wp2
    go_ret
    exact ⟨rfl, B3⟩
  · have ta : ((a : Int) == 0) = false := by simp; omega
    have ha0 : 0 < a := by omega
    by_cases hk0 : k = 0
    · have tk : (k == 0) = true := by simp [hk0]
      have ef : fitsB k a = true := by simp [fitsB, hk0, ha0]
      rw [ef] at F
      clear ha ef hk0
      go_wp2_with (refine wpList_load_mid rfl _ _ rfl w.heap.size 0 rfl cs.toList _ X2.out Try.underlying28 rfl HI.out ?_)
      rw [Array.toArray_toList]
      go_wp2_with fail
      refine (F _).out.mono ?_
      rintro e w3 ⟨rfl, b3⟩
      have B3 := bstep B2 b3
      clear B2 b3
      go_wp2
      go_ret
      exact ⟨rfl, B3⟩
    · have tk : (k == 0) = false := by simp [hk0]
      by_cases h1 : a = 1
      · have t1 : ((a : Int) == 1) = true := by simp; omega
        have ef : fitsB k a = true := by simp [fitsB, h1]
        rw [ef] at F
        clear ha ef hk0 h1
        go_wp2_with (refine wpList_load_mid rfl _ _ rfl w.heap.size 0 rfl cs.toList _ X2.out Try.underlying28 rfl HI.out ?_)
        rw [Array.toArray_toList]
        go_wp2_with fail
        refine (F _).out.mono ?_
        rintro e w3 ⟨rfl, b3⟩
        have B3 := bstep B2 b3
        clear B2 b3
        go_wp2
        go_ret
        exact ⟨rfl, B3⟩
      · have t1 : ((a : Int) == 1) = false := by simp; omega
        have ef : fitsB k a = false := by simp [fitsB, tk, t1]
        rw [ef] at F
        clear ha ef hk0 h1
        go_wp2_with (refine wpList_load_mid rfl _ _ rfl w.heap.size 0 rfl cs.toList _ X2.out Try.underlying28 rfl HI.out ?_)
        rw [Array.toArray_toList]
        go_wp2_with fail
        refine (F _).out.mono ?_
        rintro e w3 ⟨rfl, b3⟩
        have B3 := bstep B2 b3
        clear B2 b3
        go_wp2
        go_ret
        exact ⟨rfl, B3⟩
end Go.Proofs.Ytgaidleepjkldaa
