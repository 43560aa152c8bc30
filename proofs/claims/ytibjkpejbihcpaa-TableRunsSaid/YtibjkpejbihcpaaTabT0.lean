/- TableRuns: what is asked behind a step. -/
import Derived.Test.YtibjkpejbihcpaaTabM6
import Derived.Test.YtibjkpejbihcpaaTabK
namespace Go.Proofs.Ytibjkpejbihcpaa
open Go.RowKit

def TailO (w0 : World) (B tb mb : Nat) (a : Option Addr) (l cap : Nat) (ls : List Stp) (i : Nat) (e : Exit) (A : Act) (w : World) : Prop :=
  e = .normal ∧ A.defers = [] ∧ ∃ (M : QM) (n : Nat) (L : List Quo), SitM w0 B tb mb a l cap ls i M n L A.tmps w
set_option maxRecDepth 1000000 in
set_option maxHeartbeats 16000000 in
theorem tailC {w0 : World} {B tb mb : Nat} {a : Option Addr} {l cap : Nat} {ls : List Stp} {i : Nat} {T : Array Value} {w : World} (h : ArmO w0 B tb mb a l cap ls i .normal ⟨T, []⟩ w) :
    (runC 76).wp Try.prog (TailO w0 B tb mb a l cap ls i) ⟨T, []⟩ w := by
  obtain ⟨_, _, M, n, L, k, s, e10, e11⟩ := h
  dsimp only at s e10 e11
  have H := hid s
  have e0 := s.t0
  have e3 := s.t3
  have e5 := s.t5
  obtain ⟨v4, e4⟩ : ∃ v4, tm T 4 = v4 := ⟨_, rfl⟩
  rw [frameT s.size, e0, e3, e4, e5, e10, e11]
  have own0 := s.own
  rw [e4] at own0
  have own1 := hid own0
  have lo := hid s.lo
  have few := s.few
  have lenL := hid s.tl.len
  obtain ⟨ad, c4, rfl, _⟩ := Rd.of_owns own0
  clear e0 e3 e4 e5 e10 e11 s own0
  have unQ := Try.underlying43
  have un := Try.underlying30
  have n80 : n ≤ 80 := by omega
  conv => arg 2; whnf
  go_wp2_with (fail)
  refine (all_walk tb mb n M w H.out.tab).mono ?_
  rintro e w1 ⟨a1, c1, qs, ks, rfl, hq, _, _, _, tab1, b1⟩
  have T1 := hid tab1
  have B1 := hid b1
  clear hq tab1 b1
  go_wp2_with (fail)
  have ZQ := zeroQ
  have hneQ := zQ_ne
  go_loopw [300] (fun x300 wr => ∃ k : Nat, k ≤ n ∧ x300 = .int .i64 (k : Int) ∧ Below w1.heap.size w1 wr) (fun x300 _ => n - (intOf x300).toNat)
  case atStart => exact ⟨0, by omega, rfl, Below.refl _ _⟩
  case round =>
    obtain ⟨j, hj, rfl, hb⟩ := hrel
    have HB := hid hb
    clear hb
    by_cases hlt : j < n
    · obtain ⟨p, hp⟩ : ∃ p, L[j]? = some p := ⟨L[j]'(by rw [lenL.out]; omega), List.getElem?_eq_getElem _⟩
      have pok := hid (H.out.tl.ok p (List.mem_of_getElem? hp))
      have pM := hid (H.out.tl.get (List.mem_of_getElem? hp))
      obtain ⟨g, c5, e5⟩ := own_slice own1.out (by omega)
      simp only [Value.slice.injEq, true_and] at e5
      obtain ⟨rfl, rfl⟩ := e5
      have row := range_keep HB.out (range_keep B1.out (own_quote own1.out H.out.tl.ok hp))
      have hil := hid (infoQl pok.out)
      have hia := hid (infoQa pok.out)
      have hza := hid (zQ_as pok.out)
      have ho1 := hid (all_oneCell_toArray (Quo.one p))
      have hnl := hid (show (Try.prog.info? 30).map (·.size) = some (nums .u8 p.no).length by rw [nums_length, pok.out.nl]; exact infoH)
      have tlt : decide (j < n) = true := decide_eq_true hlt
      have j80 : j < 80 := by omega
      have LA := laid wr zQ p.cells.toArray 43
      clear hp
      go_upto_region 80 with (fail)
      go_upto_region 81 with (first | refine wpList_load_mid rfl _ _ rfl g (j * 71) rfl p.cells _ row unQ rfl hil.out ?_ | (with_reducible refine wpList_store_row rfl _ _ _ rfl wr.heap.size p.cells.toArray rfl rfl _ _ (heap_alloc_new wr _) hia.out hza.out ho1.out ?_; generalize (wr.alloc (Obj.cells zQ 43)).setRow wr.heap.size p.cells.toArray = w2 at *))
      have B2 := hid LA.2
      have RA := hid LA.1
      obtain ⟨K, hK⟩ : ∃ K, K = wr.heap.size := ⟨_, rfl⟩
      rw [← hK] at RA ⊢
      clear hK LA row
      have f0 := gen_range (row_range RA.out) 0 32
      rw [Quo.no_at pok.out] at f0
      have T2 := hid ((T1.out.below HB.out).below B2.out)
      go_upto_region 81 with (fail)
      go_wp2_with (refine wpList_load_mid rfl _ _ rfl K 0 rfl (nums .u8 p.no) _ f0 un rfl hnl.out ?_)
      refine (tget_walk tb mb n M p.no ⟨pok.out.nl, pok.out.nb⟩ w2 T2.out).mono ?_
      rintro e w3 ⟨rfl, b3⟩
      rw [pM.out]
      have B3 := hid b3
      have RA3 := hid (heap_keep RA.out b3)
      clear b3 f0
      have LB := laid w3 zQ p.cells.toArray 43
      go_upto_region 82 with (with_reducible refine wpList_store_row rfl _ _ _ rfl w3.heap.size p.cells.toArray rfl rfl _ _ (heap_alloc_new w3 _) hia.out hza.out ho1.out ?_; generalize (w3.alloc (Obj.cells zQ 43)).setRow w3.heap.size p.cells.toArray = w4 at *)
      have B4 := hid LB.2
      have RB := hid (row_range LB.1)
      have RA4 := hid (row_range (heap_keep RA3.out LB.2))
      obtain ⟨K2, hK⟩ : ∃ K2, K2 = w3.heap.size := ⟨_, rfl⟩
      rw [← hK] at RB ⊢
      clear hK LB
      have rb := RB.out
      have ra := RA4.out
      have qs' := quo_self pok.out
      have qg := quo_guard p
      go_wp2_with (first | with_reducible refine wpList_load_midG rfl _ _ rfl K2 0 rfl p.cells _ rb unQ rfl hil.out ?_ | with_reducible refine wpList_load_midG rfl _ _ rfl K 0 rfl p.cells _ ra unQ rfl hil.out ?_)
      go_roundw
      case rel => exact ⟨j + 1, by omega, by go_num, bstep (bstep (bstep HB.out B2.out) B3.out) B4.out⟩
      case measure => simp [intOf]; omega
    · obtain rfl : j = n := by omega
      clear ZQ hneQ
      go_wp2_with (fail)
      refine ⟨rfl, rfl, M, j, L, ?_⟩
      have hb := bstep B1.out HB.out
      exact H.out.go rfl rfl rfl rfl (H.out.tab.below hb) H.out.tl (own_below own1.out hb) (hb.mono H.out.bel.size) few.1
end Go.Proofs.Ytibjkpejbihcpaa
