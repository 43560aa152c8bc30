/- The journal's Room, State, Records; all that a nil journal tells. -/
import Derived.Test.YtnophelfpoldfaaGreatDoorJly
namespace Go.Proofs.YtnophelfpoldfaaGreatDoor
open Go.RowKit

theorem jstate_nil (w : World) : Calls Tryz.prog 30 #[.pointer none] w fun e w' => e = .returned (.slice none 0 0) ∧ w = w' := by
  go_enter Tryz.func30, Tryz.ntmps30
  go_wp2
  go_ret
  exact ⟨rfl, rfl⟩
theorem jrecs_nil (w : World) : Calls Tryz.prog 31 #[.pointer none] w fun e w' => e = .returned (.slice none 0 0) ∧ w = w' := by
  go_enter Tryz.func31, Tryz.ntmps31
  go_wp2
  go_ret
  exact ⟨rfl, rfl⟩
theorem japp_nil (w : World) (v : Value) : Calls Tryz.prog 10 #[.pointer none, v] w fun e w' => e = .returned (.int .i64 40) ∧ w = w' := by
  go_enter Tryz.func10, Tryz.ntmps10
  go_wp2
  go_ret
  exact ⟨rfl, rfl⟩
theorem jput_nil (w : World) (v : Value) : Calls Tryz.prog 9 #[.pointer none, v] w fun e w' => e = .returned (.int .i64 40) ∧ w = w' := by
  go_enter Tryz.func9, Tryz.ntmps9
  go_wp2
  go_ret
  exact ⟨rfl, rfl⟩
theorem jstate_walk {w : World} {jb db Bj half next turn : Nat} {chk st : List Nat} {rv : Value} {rs : List (List Nat)} (j : JourAt w jb db Bj half next turn chk st rv rs) (hn : st.length < 4294967296) :
    Calls Tryz.prog 30 #[.pointer (some ⟨jb, 0, none⟩)] w (Cl8 w st) := by
  obtain ⟨sv, hj, hs⟩ := j.ex
  have c36 := hj.c36
  obtain ⟨a, n, c, rfl, hl, _⟩ := hs
  have HL := hid hl
  have HN := hid (show n < 4294967296 by rw [← hl.len]; exact hn)
  clear j hj hl hn
  go_enter Tryz.func30, Tryz.ntmps30
  go_wp2_with (fail)
  refine (clone8_walk a n c st w HL.out HN.out).mono ?_
  rintro e w1 ⟨v, rfl, o1, b1⟩
  have O1 := hid o1
  have B1 := hid b1
  clear o1 b1
  go_wp2_with (fail)
  go_ret
  exact ⟨v, rfl, O1.out, B1.out⟩
theorem own_facts {w w' : World} {B i : Nat} {v : Value} {vs : List Value} (h : w.ownsRow B 22 1 v i vs) (b : Below w.heap.size w w') : ∀ g, v.ownBlock = some g → NoBy w g ∧ NoBy w' g ∧ B ≤ g :=
  fun _ hg => ⟨own_noBy h (by decide) hg, own_noBy (Below.ownK h b) (by decide) hg, (h.lt _ hg).1⟩
def RecsR (w : World) (rs : List (List Nat)) (e : Ending) (w' : World) : Prop := ∃ v vs, e = .returned v ∧ w'.ownsRow w.heap.size 22 1 v rs.length vs ∧ JRs w' vs rs ∧ Below w.heap.size w w'
def RrI (w : World) (rs : List (List Nat)) (i : Nat) (v : Value) (wr : World) : Prop := ∃ vs, wr.ownsRow w.heap.size 22 1 v i vs ∧ JRs wr vs (rs.take i) ∧ Below w.heap.size w wr
set_option maxRecDepth 100000 in
set_option maxHeartbeats 4000000 in
theorem jrecs_walk {w : World} {jb db Bj half next turn : Nat} {chk st : List Nat} {rv : Value} {rs : List (List Nat)} (j : JourAt w jb db Bj half next turn chk st rv rs) (hn : rs.length < 4294967296) (hl : ∀ r ∈ rs, r.length < 4294967296) :
    Calls Tryz.prog 31 #[.pointer (some ⟨jb, 0, none⟩)] w (RecsR w rs) := by
  obtain ⟨sv, hj, _⟩ := j.ex
  have c37 := hj.c37
  obtain ⟨vs, ho, hr⟩ := j.row
  have RS := hid hr
  have HN := hid hn
  have HL := hid hl
  obtain ⟨a, c, rfl, hd⟩ := Rd.of_owns ho
  have RD := hid hd
  obtain ⟨N, hN⟩ : ∃ N, N = rs.length := ⟨_, rfl⟩
  have NN := hid hN
  rw [← hN] at c37
  clear j hj ho hr hn hl hd hN
  go_enter Tryz.func31, Tryz.ntmps31
  go_upto_region 5 with (fail)
  go_loopw [3, 13] (fun x3 x13 wr => ∃ i : Nat, i ≤ N ∧ x13 = .int .i64 (i : Int) ∧ RrI w rs i x3 wr) (fun _ x13 _ => N - (intOf x13).toNat)
  case atStart => exact ⟨0, Nat.zero_le _, rfl, [], ⟨by simp, .inl ⟨rfl, rfl⟩⟩, JRs.nil _, Below.refl _ _⟩
  case round =>
    obtain ⟨i, hi, rfl, vi, hoi, hri, hbi⟩ := hrel
    have OI := hid hoi
    have RI := hid hri
    have BI := hid hbi
    have HI := hid hi
    clear hoi hri hbi
    by_cases hlt : i < N
    case neg =>
      obtain rfl : i = N := by omega
      have t1 : decide (i < i) = false := decide_eq_false (by omega)
      have t2 : decide ((i : Int) < (i : Int)) = false := decide_eq_false (by omega)
      clear hi hlt
      go_wp2_with (fail)
      go_ret
      have hr := RI.out
      rw [NN.out, List.take_length] at hr
      have ho := OI.out
      rw [NN.out] at ho
      exact ⟨_, vi, rfl, ho, hr, BI.out⟩
    have t1 : decide (i < N) = true := decide_eq_true hlt
    have t2 : decide ((i : Int) < (N : Int)) = true := decide_eq_true (by omega)
    have hir : i < rs.length := by rw [← NN.out]; exact hlt
    have hiv : i < vs.length := by rw [RS.out.1]; exact hir
    obtain ⟨r, hr⟩ : ∃ r, rs[i]? = some r := ⟨_, List.getElem?_eq_getElem hir⟩
    obtain ⟨v, hv⟩ : ∃ v, vs[i]? = some v := ⟨_, List.getElem?_eq_getElem hiv⟩
    have by0 := (RS.out.2 i v r hv hr).below (w' := wr) (by exact BI.out)
    have hrl : r.length < 4294967296 := HL.out r (List.mem_of_getElem? hr)
    obtain ⟨_, _, _, _, b, off, ha, hc⟩ := RD.out
    obtain rfl := ha (by omega)
    have cq := cell_keep BI.out (hc i v hv)
    obtain ⟨a5, n5, c5, rfl, s5, b5, _⟩ := by0
    have S5 := hid s5
    have N5 := hid (show n5 < 4294967296 by rw [← s5.len]; exact hrl)
    have HB := hid b5
    have HR := hid hr
    have s2 : i ≤ N := by omega
    obtain ⟨i1, hi1⟩ : ∃ i1, i1 = i + 1 := ⟨_, rfl⟩
    have r4 : IntKind.i64.wrap ((i : Int) + 1) = (i1 : Int) := by have := HN.out; have := NN.out; rw [IntKind.wrap_i64]; omega
    have I1 := hid hi1
    have LT := hid hlt
    clear hi hlt hir hiv hr hv hrl ha hc s5 b5 hi1 s2
    go_upto_region 7 with (fail)
    go_wp2_with (fail)
    refine (clone8_walk a5 n5 c5 r wr S5.out N5.out).mono ?_
    rintro e w6 ⟨v6, rfl, o6, b6⟩
    have O6 := hid o6
    have B6 := hid b6
    obtain ⟨a6, k6, rfl, _⟩ := Rd.of_owns o6
    clear o6 b6
    go_wp2_with (at_builtin; refine wpList_pushK rfl _ _ 39 rfl tySs w.heap.size (Below.ownK OI.out B6.out) rfl rfl rfl rfl (by have := LT.out; have := HN.out; have := NN.out; omega) (by decide) (Nat.le_trans BI.out.size B6.out.size) ?_; intro v7 w7 own7 k7 nb7; have O7 := hid own7; have K7 := hid k7; clear own7 k7 nb7)
    have N7 := hid (own_facts OI.out B6.out)
    have R7 := hid (show RrI w rs i1 v7 w7 from by
      refine ⟨_, by rw [I1.out]; exact O7.out, ?_, (BI.out.trans (B6.out.mono BI.out.size)).trans (K7.out.below (fun g hg => (N7.out g hg).2.2) (Nat.le_trans BI.out.size B6.out.size))⟩
      rw [I1.out, List.take_add_one, HR.out]
      exact (RI.out.keep ((Keep.of B6.out).trans K7.out) (fun g _ hg => (N7.out g hg).1)).snoc ((ByA.own O6.out HB.out).keep K7.out (fun g _ hg => (N7.out g hg).2.1)))
    clear N7 O7 K7 O6 B6
    go_wp2_with (fail)
    go_roundw
    case rel => exact ⟨i1, by have := I1.out; have := LT.out; omega, rfl, R7.out⟩
    case measure => simp [intOf]; have := I1.out; have := LT.out; omega
end Go.Proofs.YtnophelfpoldfaaGreatDoor
