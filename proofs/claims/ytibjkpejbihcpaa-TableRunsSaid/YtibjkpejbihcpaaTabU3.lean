/- The walk of the statement TableRuns. -/
import Derived.Test.YtibjkpejbihcpaaTabU2
namespace Go.Proofs.Ytibjkpejbihcpaa
open Go.RowKit

def BodyO (w0 : World) (B tb mb : Nat) (a : Option Addr) (l cap : Nat) (i : Nat) : Exit → Act → World → Prop
  | .normal, A, w => A.defers = [] ∧ LoopI w0 B tb mb a l cap (i + 1) A.tmps w
  | .exit 0, A, w => A.defers = [] ∧ LoopI w0 B tb mb a l cap i A.tmps w
  | _, _, _ => False
theorem LoopI.re {w0 : World} {B tb mb : Nat} {a : Option Addr} {l cap : Nat} {i : Nat} {T T' : Array Value} {w : World} (h : LoopI w0 B tb mb a l cap i T w) (hs : T'.size = 397) (e0 : tm T' 0 = .slice a l cap) (e3 : tm T' 3 = .pointer (some ⟨tb, 0, none⟩)) (e4 : tm T' 4 = tm T 4) (e5 : tm T' 5 = .int .i64 (i : Int)) :
    LoopI w0 B tb mb a l cap i T' w := ⟨hs, e0, e3, e5, by rw [e4]; exact h.held, h.bel, h.lo, h.il, h.i80⟩
theorem LoopI.step {w0 : World} {B tb mb : Nat} {a : Option Addr} {l cap : Nat} {ls : List Stp} {i : Nat} {T : Array Value} {w : World} (h : LoopI w0 B tb mb a l cap i T w) (hl : i < l) (h8 : i < 80) (hS : Stps w0 a l cap ls) : ∃ M n L, StepI w0 B tb mb a l cap ls i M n L T w := by
  obtain ⟨M, n, L, tab, tl, own, hn⟩ := h.held
  exact ⟨M, n, L, ⟨h.size, h.t0, h.t3, h.t5, tab, tl, own, h.bel, h.lo, ⟨by omega, h8⟩⟩, hn, hl, hS⟩
def boF (X : Code) : Nat → Option Code
  | 8 => some X
  | _ => none
noncomputable def boX (X : Code) : Code := putS (boF X) (runC 6)
set_option maxRecDepth 1000000 in
set_option maxHeartbeats 16000000 in
theorem bodyX {w0 : World} {B tb mb : Nat} {a : Option Addr} {l cap : Nat} {i : Nat} {T : Array Value} {w : World} (h : LoopI w0 B tb mb a l cap i T w) (X : Code)
    (HX : i < l → i < 80 → ∀ (T' : Array Value), LoopI w0 B tb mb a l cap i T' w → X.wp Try.prog (StepO w0 B tb mb a l cap i) ⟨T', []⟩ w) : (boX X).wp Try.prog (BodyO w0 B tb mb a l cap i) ⟨T, []⟩ w := by
  have H := hid h
  have e0 := h.t0
  have e3 := h.t3
  have e5 := h.t5
  obtain ⟨v4, e4⟩ : ∃ v4, tm T 4 = v4 := ⟨_, rfl⟩
  have E4 := hid e4.symm
  rw [frameT h.size, e0, e3, e4, e5]
  have il := h.il
  have i80 := h.i80
  clear e0 e3 e4 e5 h
  conv => arg 2; unfold boX; arg 2; whnf
  simp only [putS, firstR, boF, Option.bind_some, Option.bind_none, Option.getD_some, Option.getD_none]
  by_cases h1 : i < l
  · have t1 : decide (i < l) = true := decide_eq_true h1
    by_cases h2 : i < 80
    · have t2 : decide (i < 80) = true := decide_eq_true h2
      have t3 : decide ((i : Int) < 80) = true := decide_eq_true (by omega)
      go_wp2_with (fail)
      refine wp_mono (Q := StepO w0 B tb mb a l cap i) (HX h1 h2 _ (H.out.re (by rfl) (by rfl) (by rfl) (by exact E4.out) (by rfl))) ?_
      intro e A w' h
      cases e with
      | normal => exact h
      | _ => exact h.elim
    · have t2 : decide (i < 80) = false := decide_eq_false h2
      have t3 : decide ((i : Int) < 80) = false := decide_eq_false (by omega)
      go_wp2_with (fail)
      exact ⟨rfl, H.out.re rfl rfl rfl E4.out rfl⟩
  · have t1 : decide (i < l) = false := decide_eq_false h1
    go_wp2_with (fail)
    exact ⟨rfl, H.out.re rfl rfl rfl E4.out rfl⟩
theorem bodyC {w0 : World} {B tb mb : Nat} {a : Option Addr} {l cap : Nat} {ls : List Stp} {i : Nat} {A : Act} {w : World} (h : LoopI w0 B tb mb a l cap i A.tmps w) (hd : A.defers = []) (hS : Stps w0 a l cap ls) : (runC 6).wp Try.prog (BodyO w0 B tb mb a l cap i) A w := by
  obtain ⟨T, df⟩ := A
  dsimp only at h hd
  subst hd
  have e : runC 6 = boX (runC 8) := by kernel_rfl
  rw [e]
  refine bodyX h _ fun h1 h2 T' h' => ?_
  obtain ⟨M, n, L, hs⟩ := h'.step h1 h2 hS
  exact stepC hs
def laF (X Y : Code) : Nat → Option Code
  | 6 => some X
  | 85 => some Y
  | _ => none
noncomputable def laX (X Y : Code) : Code := putS (laF X Y) (Try.f7.body.getD .skip)
set_option maxRecDepth 1000000 in
set_option maxHeartbeats 16000000 in
theorem lawRuns (a : Option Addr) (l cap : Nat) (ls : List Stp) (hl : l ≤ 9223372036854775807) (w : World) (hS : Stps w a l cap ls) :
    Calls Try.prog 7 #[.slice a l cap] w (fun e w' => e = .returned (.bool true) ∧ Below w.heap.size w w') := by
  show Calls _ _ _ _ (EndO w)
  have HS := hid hS
  clear hS
  go_enter Try.func7, Try.ntmps7
  have e : Try.f7.body.getD .skip = laX (runC 6) (runC 85) := by kernel_rfl
  refine (show Code.wp _ (Try.f7.body.getD .skip) _ _ _ from ?_)
  rw [e]
  have HX := hid (fun (B tb mb i : Nat) (A : Act) (wr : World) (h : LoopI w B tb mb a l cap i A.tmps wr) (hd : A.defers = []) => bodyC h hd HS.out)
  have HY := hid (fun (B tb mb i : Nat) (T : Array Value) (wr : World) (h : LoopI w B tb mb a l cap i T wr) => endC h)
  generalize runC 6 = X at *
  generalize runC 85 = Y at *
  clear e
  conv => arg 2; unfold laX; arg 2; whnf
  simp only [putS, firstR, laF, Option.bind_some, Option.bind_none, Option.getD_some, Option.getD_none]
  go_wp2_with (fail)
  refine (thead_walk _).mono ?_
  rintro e w0 ⟨rfl, b0⟩
  have B0 := hid b0
  clear b0
  go_wp2_with (fail)
  refine (tnew_walk w0).mono ?_
  rintro e w1 ⟨tb, mb, rfl, t1, l1, l2, b1⟩
  have T1 := hid t1
  have L1 := hid l1
  have L2 := hid l2
  have B1 := hid b1
  have tl1 := hid (World.block_lt_of_cell? w1 _ t1.cell)
  have made := hid (World.ownsRow_made w1 #[] 0 (base := w1.heap.size) (e := 43) (size := 71) (Nat.le_refl _) (by simp) (by simp))
  have mb0 := hid ((Below.refl w1.heap.size w1).alloc (Nat.le_refl _) (.cells #[] 43))
  clear t1 l1 l2 b1
  go_wp2_with (fail)
  have L0 := hid (show w.heap.size ≤ w0.heap.size from B0.out.size)
  refine wp_loop (fun A wr => ∃ i : Nat, A.defers = [] ∧ LoopI w w1.heap.size tb mb a l cap i A.tmps wr) (fun A _ => 80 - (intOf (tm A.tmps 5)).toNat) ⟨0, rfl, rfl, rfl, rfl, rfl, ⟨_, 0, [], T1.out.below mb0.out, TL.nil, made.out, Nat.le_refl _⟩, (bstep B0.out (bstep B1.out mb0.out)), ?_, Nat.zero_le _, by omega⟩ ?_
  · have h1 := L0.out
    have h2 := L2.out
    have h3 := B1.out.size
    have h4 := tl1.out
    have h5 := T1.out.map.lt
    refine ⟨by omega, by omega, by omega, by omega, by simp⟩
  · rintro A wr ⟨i, hd, hL⟩
    refine wp_mono (Q := BodyO w w1.heap.size tb mb a l cap i) (HX.out _ _ _ _ _ _ hL hd) ?_
    intro e A' w' h
    cases e with
    | normal =>
      refine ⟨⟨i + 1, h.1, h.2⟩, ?_⟩
      have e1 := hL.t5
      have e2 := h.2.t5
      have := h.2.i80
      rw [e1, e2]
      simp [intOf]
      omega
    | «exit» k =>
      cases k with
      | zero =>
        obtain ⟨T', df⟩ := A'
        obtain ⟨hd', h'⟩ := h
        dsimp only at hd' h'
        subst hd'
        exact (by assumption : ∀ (a : Act) (w : World), Y.wp Try.prog _ a w → _) _ _ (HY.out _ _ _ _ _ _ h')
      | succ k => exact h.elim
    | _ => exact h.elim
end Go.Proofs.Ytibjkpejbihcpaa
