/- TableRuns: the switch. -/
import Derived.Test.YtibjkpejbihcpaaAm
import Derived.Test.YtibjkpejbihcpaaTabM3
import Derived.Test.YtibjkpejbihcpaaTabM4
import Derived.Test.YtibjkpejbihcpaaTabM6
import Derived.Test.YtibjkpejbihcpaaTabT0
namespace Go.Proofs.Ytibjkpejbihcpaa
open Go.RowKit

def swF (A0 A1 A2 A3 A5 A6 : Code) : Nat → Option Code
  | 23 => some A0
  | 30 => some A1
  | 43 => some A2
  | 51 => some A3
  | 59 => some A5
  | 66 => some A6
  | _ => none
noncomputable def swX (A0 A1 A2 A3 A5 A6 : Code) : Code := putS (swF A0 A1 A2 A3 A5 A6) (headC (runC 21))
theorem ArmI.re {w0 : World} {B tb mb : Nat} {a : Option Addr} {l cap : Nat} {ls : List Stp} {i : Nat} {M : QM} {n : Nat} {L : List Quo} {x : Stp} {at' : Int} {q : Quo} {G R : Nat} {T : Array Value} {w : World} {T' : Array Value} (h : ArmI w0 B tb mb a l cap ls i M n L x at' q G R T w) (hs : T'.size = 397) (e0 : tm T' 0 = .slice a l cap) (e3 : tm T' 3 = .pointer (some ⟨tb, 0, none⟩)) (e4 : tm T' 4 = tm T 4) (e5 : tm T' 5 = .int .i64 (i : Int))
    (e6 : tm T' 6 = .pointer (some ⟨G, 0, none⟩)) (e7 : tm T' 7 = .int .i64 at') (e9 : tm T' 9 = .pointer (some ⟨R, 0, none⟩)) (e10 : tm T' 10 = .int .i64 0) (e11 : tm T' 11 = .int .i64 0) : ArmI w0 B tb mb a l cap ls i M n L x at' q G R T' w :=
  ⟨⟨hs, e0, e3, e5, h.sit.tab, h.sit.tl, by rw [e4]; exact h.sit.own, h.sit.bel, h.sit.lo, h.sit.few⟩, h.less, e6, h.s, h.xok, e7, h.at', h.qok, e9, h.q, e10, e11, by rw [e4]; exact h.gr⟩
set_option maxRecDepth 1000000 in
set_option maxHeartbeats 16000000 in
theorem switchX {w0 : World} {B tb mb : Nat} {a : Option Addr} {l cap : Nat} {ls : List Stp} {i : Nat} {M : QM} {n : Nat} {L : List Quo} {x : Stp} {at' : Int} {q : Quo} {G R : Nat} {T : Array Value} {w : World} (h : ArmI w0 B tb mb a l cap ls i M n L x at' q G R T w) (A0 A1 A2 A3 A5 A6 : Code) (H0 : x.k = 0 → ∀ T', ArmI w0 B tb mb a l cap ls i M n L x at' q G R T' w → A0.wp Try.prog (ArmO w0 B tb mb a l cap ls i) ⟨T', []⟩ w) (H1 : x.k = 1 → ∀ T', ArmI w0 B tb mb a l cap ls i M n L x at' q G R T' w → A1.wp Try.prog (ArmO w0 B tb mb a l cap ls i) ⟨T', []⟩ w) (H2 : x.k = 2 → ∀ T', ArmI w0 B tb mb a l cap ls i M n L x at' q G R T' w → A2.wp Try.prog (ArmO w0 B tb mb a l cap ls i) ⟨T', []⟩ w) (H3 : x.k = 3 → ∀ T', ArmI w0 B tb mb a l cap ls i M n L x at' q G R T' w → A3.wp Try.prog (ArmO w0 B tb mb a l cap ls i) ⟨T', []⟩ w) (H4 : x.k = 4 → ∀ T', ArmI w0 B tb mb a l cap ls i M n L x at' q G R T' w → A3.wp Try.prog (ArmO w0 B tb mb a l cap ls i) ⟨T', []⟩ w) (H5 : x.k = 5 → ∀ T', ArmI w0 B tb mb a l cap ls i M n L x at' q G R T' w → A5.wp Try.prog (ArmO w0 B tb mb a l cap ls i) ⟨T', []⟩ w) (H6 : x.k = 6 → ∀ T', ArmI w0 B tb mb a l cap ls i M n L x at' q G R T' w → A6.wp Try.prog (ArmO w0 B tb mb a l cap ls i) ⟨T', []⟩ w) : (swX A0 A1 A2 A3 A5 A6).wp Try.prog (ArmO w0 B tb mb a l cap ls i) ⟨T, []⟩ w := by
  have H := hid h
  have e0 := h.sit.t0
  have e3 := h.sit.t3
  have e5 := h.sit.t5
  have e6 := h.t6
  have e7 := h.t7
  have e9 := h.t9
  have e10 := h.t10
  have e11 := h.t11
  obtain ⟨v4, e4⟩ : ∃ v4, tm T 4 = v4 := ⟨_, rfl⟩
  have E4 := hid e4.symm
  rw [frameT h.sit.size, e0, e3, e4, e5, e6, e7, e9, e10, e11]
  have c0 : w.cell? ⟨G, 0, none⟩ = some (.int .i64 x.k) := gen_cell (j := 0) (row_range h.s) rfl
  clear e0 e3 e4 e5 e6 e7 e9 e10 e11 h
  conv => arg 2; unfold swX; arg 2; whnf
  simp only [putS, firstR, swF, Option.bind_some, Option.bind_none, Option.getD_some, Option.getD_none]
  obtain ⟨kk, hkk⟩ : ∃ kk, x.k = kk := ⟨_, rfl⟩
  rw [hkk] at c0
  have HK := hid hkk
  clear hkk
  by_cases h0 : kk = 0
  · subst h0
    go_wp2_with (fail)
    refine wp_mono (Q := ArmO w0 B tb mb a l cap ls i) (H0 HK.out _ (H.out.re (by rfl) (by rfl) (by rfl) (by exact E4.out) (by rfl) (by rfl) (by rfl) (by rfl) (by rfl) (by rfl))) ?_
    rintro e A w' ⟨rfl, hd, r⟩
    exact ⟨rfl, hd, r⟩
  have t0 : (kk == 0) = false := by simp [h0]
  by_cases h1 : kk = 1
  · subst h1
    go_wp2_with (fail)
    refine wp_mono (Q := ArmO w0 B tb mb a l cap ls i) (H1 HK.out _ (H.out.re (by rfl) (by rfl) (by rfl) (by exact E4.out) (by rfl) (by rfl) (by rfl) (by rfl) (by rfl) (by rfl))) ?_
    rintro e A w' ⟨rfl, hd, r⟩
    exact ⟨rfl, hd, r⟩
  have t1 : (kk == 1) = false := by simp [h1]
  by_cases h2 : kk = 2
  · subst h2
    go_wp2_with (fail)
    refine wp_mono (Q := ArmO w0 B tb mb a l cap ls i) (H2 HK.out _ (H.out.re (by rfl) (by rfl) (by rfl) (by exact E4.out) (by rfl) (by rfl) (by rfl) (by rfl) (by rfl) (by rfl))) ?_
    rintro e A w' ⟨rfl, hd, r⟩
    exact ⟨rfl, hd, r⟩
  have t2 : (kk == 2) = false := by simp [h2]
  by_cases h3 : kk = 3
  · subst h3
    go_wp2_with (fail)
    refine wp_mono (Q := ArmO w0 B tb mb a l cap ls i) (H3 HK.out _ (H.out.re (by rfl) (by rfl) (by rfl) (by exact E4.out) (by rfl) (by rfl) (by rfl) (by rfl) (by rfl) (by rfl))) ?_
    rintro e A w' ⟨rfl, hd, r⟩
    exact ⟨rfl, hd, r⟩
  have t3 : (kk == 3) = false := by simp [h3]
  by_cases h4 : kk = 4
  · subst h4
    go_wp2_with (fail)
    refine wp_mono (Q := ArmO w0 B tb mb a l cap ls i) (H4 HK.out _ (H.out.re (by rfl) (by rfl) (by rfl) (by exact E4.out) (by rfl) (by rfl) (by rfl) (by rfl) (by rfl) (by rfl))) ?_
    rintro e A w' ⟨rfl, hd, r⟩
    exact ⟨rfl, hd, r⟩
  have t4 : (kk == 4) = false := by simp [h4]
  by_cases h5 : kk = 5
  · subst h5
    go_wp2_with (fail)
    refine wp_mono (Q := ArmO w0 B tb mb a l cap ls i) (H5 HK.out _ (H.out.re (by rfl) (by rfl) (by rfl) (by exact E4.out) (by rfl) (by rfl) (by rfl) (by rfl) (by rfl) (by rfl))) ?_
    rintro e A w' ⟨rfl, hd, r⟩
    exact ⟨rfl, hd, r⟩
  have t5 : (kk == 5) = false := by simp [h5]
  by_cases h6 : kk = 6
  · subst h6
    go_wp2_with (fail)
    refine wp_mono (Q := ArmO w0 B tb mb a l cap ls i) (H6 HK.out _ (H.out.re (by rfl) (by rfl) (by rfl) (by exact E4.out) (by rfl) (by rfl) (by rfl) (by rfl) (by rfl) (by rfl))) ?_
    rintro e A w' ⟨rfl, hd, r⟩
    exact ⟨rfl, hd, r⟩
  have t6 : (kk == 6) = false := by simp [h6]
  go_wp2_with (fail)
  exact ⟨rfl, rfl, M, n, L, 0, (H.out.re (T' := _) (by rfl) (by rfl) (by rfl) (by exact E4.out) (by rfl) (by rfl) (by rfl) (by rfl) (by rfl) (by rfl)).sit, rfl, rfl⟩
theorem switchC {w0 : World} {B tb mb : Nat} {a : Option Addr} {l cap : Nat} {ls : List Stp} {i : Nat} {M : QM} {n : Nat} {L : List Quo} {x : Stp} {at' : Int} {q : Quo} {G R : Nat} {T : Array Value} {w : World} (h : ArmI w0 B tb mb a l cap ls i M n L x at' q G R T w) : (headC (runC 21)).wp Try.prog (ArmO w0 B tb mb a l cap ls i) ⟨T, []⟩ w := by
  have e : headC (runC 21) = swX (runC 23) (runC 30) (runC 43) (runC 51) (runC 59) (runC 66) := by kernel_rfl
  rw [e]
  exact switchX h _ _ _ _ _ _ (fun _ _ h => arm0 h) (fun _ _ h => arm1 h) (fun _ _ h => arm2 h) (fun k _ h => arm3 h k) (fun k _ h => arm4 h k) (fun _ _ h => arm5 h) (fun _ _ h => arm6 h)
end Go.Proofs.Ytibjkpejbihcpaa
