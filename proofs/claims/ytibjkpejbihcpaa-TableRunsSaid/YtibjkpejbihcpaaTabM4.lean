/- TableRuns' arms: Buy. -/
import Derived.Test.YtibjkpejbihcpaaTabM3
namespace Go.Proofs.Ytibjkpejbihcpaa
open Go.RowKit

set_option maxRecDepth 1000000 in
set_option maxHeartbeats 16000000 in
theorem arm4 {w0 : World} {B tb mb : Nat} {a : Option Addr} {l cap : Nat} {ls : List Stp} {i : Nat} {M : QM} {n : Nat} {L : List Quo} {x : Stp} {at' : Int} {q : Quo} {G R : Nat} {T : Array Value} {w : World} (h : ArmI w0 B tb mb a l cap ls i M n L x at' q G R T w) (hk : x.k = 4) :
    (runC 51).wp Try.prog (ArmO w0 B tb mb a l cap ls i) ⟨T, []⟩ w := by
  have H := hid h
  have e0 := h.sit.t0
  have e3 := h.sit.t3
  have e5 := h.sit.t5
  have e6 := h.t6
  have e7 := h.t7
  have e9 := h.t9
  have e10 := h.t10
  have e11 := h.t11
  obtain ⟨v4, e4⟩ : ∃ v4, tm T 4 = v4 := ⟨_, rfl⟩
  rw [frameT h.sit.size, e0, e3, e4, e5, e6, e7, e9, e10, e11]
  have e4' := hid e4
  have XOK := hid h.xok
  have QOK := hid h.qok
  have lo := h.sit.lo
  have gr := h.gr
  have glt := (Array.getElem?_eq_some_iff.1 h.s).1
  have rlt := (Array.getElem?_eq_some_iff.1 h.q).1
  have f1 := gen_range (row_range h.s) 1 32
  rw [Stp.no_at h.xok] at f1
  have HS := hid h.s
  have HQ := hid h.q
  have un := Try.underlying30
  have hiH : (Try.prog.info? 30).map (·.size) = some (nums .u8 x.no).length := by rw [nums_length, h.xok.nl]; exact infoH
  clear e0 e3 e4 e5 e6 e7 e9 e10 e11 h
  conv => arg 2; whnf
  have c66 : w.cell? ⟨G, 66, none⟩ = some (.int .u64 (x.a : Int)) := gen_cell (j := 66) (row_range HS.out) (Stp.get XOK.out 1)
  have c67 : w.cell? ⟨G, 67, none⟩ = some (.int .u64 (x.b : Int)) := gen_cell (j := 67) (row_range HS.out) (Stp.get XOK.out 2)
  have c70 : w.cell? ⟨G, 70, none⟩ = some (.int .i64 x.h) := gen_cell (j := 70) (row_range HS.out) (Stp.get XOK.out 5)
  have c0 : w.cell? ⟨G, 0, none⟩ = some (.int .i64 x.k) := gen_cell (j := 0) (row_range HS.out) rfl
  rw [hk] at c0
  have hrt : ∀ p, M x.no = some p → p.st = 1 → ¬ (p.rc = 0 ∨ p.ru = 0) := fun p hp hs => H.out.sit.tl.rt p (by have e := H.out.sit.tl.eq; rw [e] at hp; exact (lookL_some hp).1) hs
  have UE := hid (use_buy hk hrt)
  go_wp2_with (refine wpList_load_mid rfl _ _ rfl G 1 rfl (nums .u8 x.no) _ f1 un rfl hiH ?_)
  refine (tbuy_walk tb mb n M x.no ⟨XOK.out.nl, XOK.out.nb⟩ x.h x.a x.b XOK.out.ab XOK.out.bb w H.out.sit.tab).mono ?_
  rintro e w1 ⟨rfl, t1, fr⟩
  have T1 := hid t1
  have FR := hid fr
  have HS1 := hid (heap_far HS.out fr (by omega))
  have HQ1 := hid (heap_far HQ.out fr (by omega))
  have own1 := hid (H.out.sit.row_far fr)
  rw [e4'.out] at own1
  clear t1 fr
  clear f1 c66 c67 c70 c0 hrt
  have unQ := Try.underlying43
  have unS := Try.underlying38
  have r1 := row_range HS1.out
  have r2 := row_range HQ1.out
  have hi1 := hid (infoSl XOK.out)
  have hi2 := hid (infoQl QOK.out)
  obtain ⟨rr, hrr⟩ : ∃ rr, rr = useS (M x.no) true x.h x.a (fun rc ru => payB x.b ru x.a rc) := ⟨_, rfl⟩
  rw [← hrr] at UE T1 ⊢
  clear hrr
  obtain ⟨th, hth⟩ : ∃ th, th = (M x.no).isSome := ⟨_, rfl⟩
  have hq0 : (M x.no).getD qz = q ∧ decide (0 ≤ at') = th := by
    rcases H.out.at' with ⟨rfl, hm, rfl⟩ | ⟨j, rfl, hj, hno, hm⟩
    · rw [hth, hm]; exact ⟨rfl, rfl⟩
    · rw [hth, hm]; exact ⟨rfl, decide_eq_true (by omega)⟩
  rw [hq0.1, ← hth] at UE
  have tge := hq0.2
  have tge' : decide (at' ≥ 0) = th := hq0.2
  clear hq0 hth
  go_wp2_with (first | refine wpList_load_mid rfl _ _ rfl G 0 rfl x.cells _ r1 unS rfl hi1.out ?_ | refine wpList_load_mid rfl _ _ rfl R 0 rfl q.cells _ r2 unQ rfl hi2.out ?_)
  refine (use_walk q th x QOK.out XOK.out w1).mono ?_
  rintro e w2 ⟨rfl, b2⟩
  have B2 := hid b2
  clear b2 r1 r2
  generalize useW q th x = u at *
  obtain ⟨u1, u2⟩ := u
  obtain ⟨hu1, hu2⟩ := UE.out
  dsimp only at hu1 hu2 ⊢
  by_cases h0 : u1 = 0
  case neg =>
    have tz : ((u1 : Int) == 0) = false := by simp; exact h0
    have T2 := hid (resM_bad (by omega : rr.2 ≠ 0) T1.out)
    rw [hu1]
    have U1 := hid hu1
    clear hu1 hu2 T1
    go_wp2
    refine ⟨rfl, rfl, M, n, L, u1, ?_, rfl, rfl⟩
    exact H.out.sit.go rfl rfl rfl rfl (T2.out.below B2.out) H.out.sit.tl (own_below own1.out B2.out) ((FR.out.below lo.1 H.out.sit.bel.size).trans (B2.out.mono (Nat.le_trans H.out.sit.bel.size FR.out.size))) H.out.sit.few.1
  subst h0
  obtain ⟨p, hp, hrr, hlt⟩ := hu2 rfl
  rcases H.out.at' with ⟨rfl, hm, rfl⟩ | ⟨j, rfl, hj, hno, hm⟩
  · rw [hm] at hp; cases hp
  · obtain rfl : q = p := by rw [hm] at hp; exact Option.some.inj hp
    obtain ⟨q', hq'⟩ : ∃ q', q' = { q with used := u2 } := ⟨_, rfl⟩
    rw [← hq'] at hrr
    subst hrr
    have ow2 := own_below own1.out B2.out
    have lenL := H.out.sit.tl.len
    have hjn : j < n := by have := (List.getElem?_eq_some_iff.1 hj).1; omega
    obtain ⟨g, c, rfl⟩ := own_slice ow2 (by omega)
    have tj2 : decide (j < n) = true := decide_eq_true hjn
    have ol1 := ow2.1
    have hc := (ow2.cellAt (j * 71 + 70) (by omega)).trans (flatQ_at H.out.sit.tl.ok hj (Quo.get QOK.out 6))
    have hfz := ow2.frozenAt (j * 71 + 70)
    replace hc : w2.cell? ⟨g, j * 71 + 70, none⟩ = some (.int .u64 (q.used : Int)) := hc
    clear hu1 hu2
    go_wp2
    clear hfz hc
    have ow := (ow2.stored (j * 71 + 70) (.int .u64 (u2 : Int))).1
    rw [flatQ_set H.out.sit.tl.ok hj (by decide) (q' := q') (by rw [Quo.set QOK.out 6, hq']; rfl)] at ow
    have T2 : TabAt w1 tb mb (updM M x.no q') n := T1.out
    refine H.out.stored hj hno (T2.below B2.out) (FR.out.trans (Far.of B2.out)) ow2 (by rw [hq']; exact { QOK.out with sb := hlt }) (by rw [hq']) (by rw [hq']; exact H.out.sit.tl.rt q (List.mem_of_getElem? hj)) (by rw [hq']; exact H.out.sit.tl.st q (List.mem_of_getElem? hj)) ow (Far.set _) rfl rfl rfl rfl rfl rfl rfl
end Go.Proofs.Ytibjkpejbihcpaa
