/- TableRuns' arms: Reject. -/
import Derived.Test.YtibjkpejbihcpaaTabL
namespace Go.Proofs.Ytibjkpejbihcpaa
open Go.RowKit

set_option maxRecDepth 1000000 in
set_option maxHeartbeats 8000000 in
theorem arm2 {w0 : World} {B tb mb : Nat} {a : Option Addr} {l cap : Nat} {ls : List Stp} {i : Nat} {M : QM} {n : Nat} {L : List Quo} {x : Stp} {at' : Int} {q : Quo} {G R : Nat} {T : Array Value} {w : World} (h : ArmI w0 B tb mb a l cap ls i M n L x at' q G R T w) :
    (runC 43).wp Try.prog (ArmO w0 B tb mb a l cap ls i) ⟨T, []⟩ w := by
  have H := hid h
  have e0 := h.sit.t0
  have e3 := h.sit.t3
  have e5 := h.sit.t5
  have e6 := h.t6
  have e7 := h.t7
  have e9 := h.t9
  have e10 := h.t10
  have e11 := h.t11
  obtain ⟨v4, e4⟩ : ∃ v4, tm T 4 = v4 := ⟨_, rfl⟩
  rw [frameT h.sit.size, e0, e3, e4, e5, e6, e7, e9, e10, e11]
  have e4' := hid e4
  have f1 := gen_range (row_range h.s) 1 32
  have hx := Stp.no_at h.xok
  rw [hx] at f1
  have un := Try.underlying30
  have hiH : (Try.prog.info? 30).map (·.size) = some (nums .u8 x.no).length := by rw [nums_length, h.xok.nl]; exact infoH
  clear e0 e3 e4 e5 e6 e7 e9 e10 e11 h hx
  conv => arg 2; whnf
  go_wp2_with (refine wpList_load_mid rfl _ _ rfl G 1 rfl (nums .u8 x.no) _ f1 un rfl hiH ?_)
  refine (rej_walk tb mb n M x.no ⟨H.out.xok.nl, H.out.xok.nb⟩ w H.out.sit.tab).mono ?_
  rintro e w1 ⟨rfl, t1, fr⟩
  have T1 := hid t1
  have FR := hid fr
  have g9 := hid (heap_far H.out.q fr (by have := H.out.gr; have := H.out.sit.lo; omega))
  have own1 := hid (H.out.sit.row_far fr)
  rw [e4'.out] at own1
  clear t1 fr f1
  rcases H.out.at' with ⟨rfl, hm, rfl⟩ | ⟨j, rfl, hj, hno, hm⟩
  · have hr : rejS (M x.no) = (qz, 5) := by rw [hm]; rfl
    rw [hr] at T1 ⊢
    go_wp2
    refine ⟨rfl, rfl, M, n, L, 5, ?_, rfl, rfl⟩
    exact H.out.sit.go rfl rfl rfl rfl T1.out H.out.sit.tl own1.out (FR.out.below H.out.sit.lo.1 H.out.sit.bel.size) H.out.sit.few.1
  · have tj : decide (((j : Nat) : Int) < 0) = false := by rw [decide_eq_false_iff_not]; omega
    have d4 := gen_cell (j := 66) (row_range g9.out) (v := .int .i64 q.st) (Quo.get H.out.qok 2)
    by_cases hst : q.st = 0
    case neg =>
      have hr : rejS (M x.no) = (qz, 52) := by rw [hm]; simp [rejS, openS, hst]
      have ts : (q.st != 0) = true := by simp [hst]
      rw [hr] at T1 ⊢
      go_wp2
      refine ⟨rfl, rfl, M, n, L, 52, ?_, rfl, rfl⟩
      exact H.out.sit.go rfl rfl rfl rfl T1.out H.out.sit.tl own1.out (FR.out.below H.out.sit.lo.1 H.out.sit.bel.size) H.out.sit.few.1
    case pos =>
      have hr : rejS (M x.no) = ({ q with st := 2 }, 0) := by rw [hm]; simp [rejS, openS, hst]
      have ts : (q.st != 0) = false := by simp [hst]
      have hlL := H.out.sit.tl.len
      have hjn : j < n := by have := (List.getElem?_eq_some_iff.1 hj).1; omega
      obtain ⟨g, c, rfl⟩ := own_slice own1.out (by omega)
      have hc := (own1.out.cellAt (j * 71 + 66) (by have := own1.out.1; omega)).trans (flatQ_at H.out.sit.tl.ok hj (Quo.get H.out.qok 2))
      have tj2 : decide (j < n) = true := decide_eq_true hjn
      rw [hr] at T1 ⊢
      have hfz := own1.out.frozenAt (j * 71 + 66)
      go_wp2
      clear hfz hc
      obtain ⟨ow, bw⟩ := own1.out.stored (j * 71 + 66) (.int .i64 2)
      have hg := (own1.out.lt g rfl).1
      have lo := H.out.sit.lo
      have hq2 : ({ q with st := 2 } : Quo).ok := { H.out.qok with sw := (show (Lit.int .i64 2).wf = true by decide) }
      have hl2 := H.out.sit.tl.set (q' := { q with st := 2 }) hj rfl hq2 (fun h => by cases h) (.inr (.inr rfl))
      have hl2 := hl2.at hno
      rw [flatQ_set H.out.sit.tl.ok hj (by decide) (q' := { q with st := 2 }) (by rw [Quo.set H.out.qok 2]; rfl)] at ow
      refine ⟨rfl, rfl, updM M x.no { q with st := 2 }, n, L.set j { q with st := 2 }, 0, ?_, rfl, rfl⟩
      refine H.out.sit.go rfl rfl rfl rfl (TabAt.far (H := g) T1.out (Far.set _) (by omega) (by omega)) hl2 ow ?_ H.out.sit.few.1
      exact (FR.out.below H.out.sit.lo.1 H.out.sit.bel.size).trans ((Far.set (H := g) _).below (by omega) (Nat.le_trans H.out.sit.bel.size FR.out.size))
end Go.Proofs.Ytibjkpejbihcpaa

/- TableRuns' arms: Ask. -/
namespace Go.Proofs.Ytibjkpejbihcpaa
open Go.RowKit

set_option maxRecDepth 1000000 in
set_option maxHeartbeats 16000000 in
theorem arm0 {w0 : World} {B tb mb : Nat} {a : Option Addr} {l cap : Nat} {ls : List Stp} {i : Nat} {M : QM} {n : Nat} {L : List Quo} {x : Stp} {at' : Int} {q : Quo} {G R : Nat} {T : Array Value} {w : World} (h : ArmI w0 B tb mb a l cap ls i M n L x at' q G R T w) :
    (runC 23).wp Try.prog (ArmO w0 B tb mb a l cap ls i) ⟨T, []⟩ w := by
  have H := hid h
  have e0 := h.sit.t0
  have e3 := h.sit.t3
  have e5 := h.sit.t5
  have e6 := h.t6
  have e7 := h.t7
  have e9 := h.t9
  have e10 := h.t10
  have e11 := h.t11
  obtain ⟨v4, e4⟩ : ∃ v4, tm T 4 = v4 := ⟨_, rfl⟩
  rw [frameT h.sit.size, e0, e3, e4, e5, e6, e7, e9, e10, e11]
  have e4' := hid e4
  have XOK := hid h.xok
  have QOK := hid h.qok
  have lo := h.sit.lo
  have gr := h.gr
  have glt := (Array.getElem?_eq_some_iff.1 h.s).1
  have rlt := (Array.getElem?_eq_some_iff.1 h.q).1
  have f1 := gen_range (row_range h.s) 1 32
  rw [Stp.no_at h.xok] at f1
  have HS := hid h.s
  have HQ := hid h.q
  have un := Try.underlying30
  have hiH : (Try.prog.info? 30).map (·.size) = some (nums .u8 x.no).length := by rw [nums_length, h.xok.nl]; exact infoH
  clear e0 e3 e4 e5 e6 e7 e9 e10 e11 h
  conv => arg 2; whnf
  have f33 := gen_range (row_range HS.out) 33 32
  rw [Stp.id_at XOK.out] at f33
  have hiI : (Try.prog.info? 30).map (·.size) = some (nums .u8 x.id).length := by rw [nums_length, XOK.out.il]; exact infoH
  have c65 : w.cell? ⟨G, 65, none⟩ = some (.bool x.on) := gen_cell (j := 65) (row_range HS.out) (Stp.get XOK.out 0)
  have c66 : w.cell? ⟨G, 66, none⟩ = some (.int .u64 (x.a : Int)) := gen_cell (j := 66) (row_range HS.out) (Stp.get XOK.out 1)
  go_wp2_with (first | refine wpList_load_mid rfl _ _ rfl G 1 rfl (nums .u8 x.no) _ f1 un rfl hiH ?_ | refine wpList_load_mid rfl _ _ rfl G 33 rfl (nums .u8 x.id) _ f33 un rfl hiI ?_)
  refine (ask_walk tb mb n M x.no x.id ⟨XOK.out.nl, XOK.out.nb⟩ ⟨XOK.out.il, XOK.out.ib⟩ x.on x.a XOK.out.ab w H.out.sit.tab).mono ?_
  rintro e w1 ⟨rfl, t1, fr⟩
  have T1 := hid t1
  have FR := hid fr
  have HS1 := hid (heap_far HS.out fr (by omega))
  have HQ1 := hid (heap_far HQ.out fr (by omega))
  have own1 := hid (H.out.sit.row_far fr)
  rw [e4'.out] at own1
  clear t1 fr
  clear f1 f33 c65 c66
  have c65 : w1.cell? ⟨G, 65, none⟩ = some (.bool x.on) := gen_cell (j := 65) (row_range HS1.out) (Stp.get XOK.out 0)
  have c66 : w1.cell? ⟨G, 66, none⟩ = some (.int .u64 (x.a : Int)) := gen_cell (j := 66) (row_range HS1.out) (Stp.get XOK.out 1)
  by_cases ha : x.a = 0
  · have hk : askC M n x.no x.id x.a = 1 := if_pos (.inl ha)
    have hM : askM M n x.no x.id x.on x.a = M := by unfold askM; rw [if_neg (by omega)]
    have hN : askN M n x.no x.id x.a = n := by unfold askN; rw [if_neg (by omega)]
    have ta : ((x.a : Int) == 0) = true := by simp [ha]
    rw [hM, hN] at T1
    rw [hk]
    go_wp2
    refine ⟨rfl, rfl, M, n, L, 1, ?_, rfl, rfl⟩
    exact H.out.sit.go rfl rfl rfl rfl T1.out H.out.sit.tl own1.out (FR.out.below H.out.sit.lo.1 H.out.sit.bel.size) H.out.sit.few.1
  have ta : ((x.a : Int) == 0) = false := by simp; exact ha
  have f1 := gen_range (row_range HS1.out) 1 32
  rw [Stp.no_at XOK.out] at f1
  have f33 := gen_range (row_range HS1.out) 33 32
  rw [Stp.id_at XOK.out] at f33
  have ez := eqz_run (xs := x.id) ⟨XOK.out.il, XOK.out.ib⟩
  have eg := eqz_guard x.id
  by_cases hi0 : x.id = hz32
  · have hk : askC M n x.no x.id x.a = 1 := if_pos (.inr hi0)
    have hM : askM M n x.no x.id x.on x.a = M := by unfold askM; rw [if_neg (by omega)]
    have hN : askN M n x.no x.id x.a = n := by unfold askN; rw [if_neg (by omega)]
    rw [hM, hN] at T1
    have td : decide (x.id = hz32) = true := decide_eq_true hi0
    rw [td] at ez
    rw [hk]
    clear hi0
    go_wp2_with (first | refine wpList_load_midG rfl _ _ rfl G 33 rfl (nums .u8 x.id) _ f33 un rfl hiI ?_)
    refine ⟨rfl, rfl, M, n, L, 1, ?_, rfl, rfl⟩
    exact H.out.sit.go rfl rfl rfl rfl T1.out H.out.sit.tl own1.out (FR.out.below H.out.sit.lo.1 H.out.sit.bel.size) H.out.sit.few.1
  have td : decide (x.id = hz32) = false := decide_eq_false hi0
  rw [td] at ez
  rcases H.out.at' with ⟨rfl, hm, rfl⟩ | ⟨j, rfl, hj, hno, hm⟩
  · have h80 := H.out.less
    have h81 := H.out.sit.few.2
    have hk : askC M n x.no x.id x.a = 0 := by unfold askC; rw [if_neg (by simp [ha, hi0]), hm, if_neg (by simp), if_neg (by omega)]
    have hM : askM M n x.no x.id x.on x.a = updM M x.no (askQ x.no x.id x.on x.a) := by unfold askM; rw [if_pos hk]
    have hN : askN M n x.no x.id x.a = n + 1 := by unfold askN; rw [if_pos hk]
    rw [hM, hN] at T1
    rw [hk]
    have aok : (askQ x.no x.id x.on x.a).ok := ⟨XOK.out.nl, XOK.out.nb, XOK.out.il, XOK.out.ib, XOK.out.ab, (by decide : (0:Nat) < 18446744073709551616), (by decide : (0:Nat) < 18446744073709551616), (by decide : (0:Nat) < 18446744073709551616), (by decide : (Lit.int .i64 0).wf = true), (by decide : (Lit.int .i64 0).wf = true)⟩
    have hbu := built_q x.no x.id x.on x.a XOK.out.nl XOK.out.il
    have hcs : (Quo.cells ⟨x.no, x.id, x.on, x.a, 0, 0, 0, 0, 0⟩).toArray.size = 71 := by rw [List.size_toArray]; exact Quo.len aok
    have hzi : ((Try.prog.info? 43).bind (·.zero)).isSome = true := by kernel_rfl
    have hiQ : (Try.prog.info? 43).map (·.size) = some 71 := infoQ
    have ho1 := hid (show (Quo.cells ⟨x.no, x.id, x.on, x.a, 0, 0, 0, 0, 0⟩).toArray.toList.all Value.oneCell' = true from List.all_eq_true.2 (fun v hv => Quo.one (askQ x.no x.id x.on x.a) v (show v ∈ (askQ x.no x.id x.on x.a).cells from hv)))
    have hB1 : B ≤ w1.heap.size := Nat.le_trans lo.2.2.2.2 FR.out.size
    go_wp2_with (first | refine wpList_load_midG rfl _ _ rfl G 33 rfl (nums .u8 x.id) _ f33 un rfl hiI ?_ | refine wpList_load_mid rfl _ _ rfl G 1 rfl (nums .u8 x.no) _ f1 un rfl hiH ?_ | refine wpList_load_mid rfl _ _ rfl G 33 rfl (nums .u8 x.id) _ f33 un rfl hiI ?_ | refine wpList_build4 rfl _ _ _ _ _ rfl hbu rfl rfl rfl rfl ?_ | refine wpList_lit1 rfl _ _ _ rfl rfl Try.underlying57 hiQ hzi hcs (by decide) (by decide) ?_ | (at_builtin; refine wpList_push rfl _ _ 57 rfl tyQs B own1.out rfl rfl hcs ho1.out (by omega) (by decide) hB1 ?_; intro v5 w5 own5 b5 hs5 _; have O5 := hid own5; have B5 := hid b5; clear own5 b5 hs5))
    refine ⟨rfl, rfl, updM M x.no (askQ x.no x.id x.on x.a), n + 1, L ++ [askQ x.no x.id x.on x.a], 0, ?_, rfl, rfl⟩
    refine H.out.sit.go rfl rfl rfl rfl (T1.out.under B5.out lo.2.2.2.1 lo.2.2.1) (H.out.sit.tl.snoc (q := askQ x.no x.id x.on x.a) hm aok rfl) ?_ ?_ (by omega)
    · rw [List.flatMap_append, List.flatMap_cons, List.flatMap_nil, List.append_nil]
      exact O5.out
    · exact (FR.out.below H.out.sit.lo.1 H.out.sit.bel.size).trans (B5.out.mono lo.2.1)
  · have hk : askC M n x.no x.id x.a = 6 := by unfold askC; rw [if_neg (by simp [ha, hi0]), hm, if_pos (by rfl)]
    have hM : askM M n x.no x.id x.on x.a = M := by unfold askM; rw [if_neg (by omega)]
    have hN : askN M n x.no x.id x.a = n := by unfold askN; rw [if_neg (by omega)]
    rw [hM, hN] at T1
    rw [hk]
    go_wp2_with (first | refine wpList_load_midG rfl _ _ rfl G 33 rfl (nums .u8 x.id) _ f33 un rfl hiI ?_)
    refine ⟨rfl, rfl, M, n, L, 6, ?_, rfl, rfl⟩
    exact H.out.sit.go rfl rfl rfl rfl T1.out H.out.sit.tl own1.out (FR.out.below H.out.sit.lo.1 H.out.sit.bel.size) H.out.sit.few.1
end Go.Proofs.Ytibjkpejbihcpaa

/- TableRuns' arms: Undo. -/
namespace Go.Proofs.Ytibjkpejbihcpaa
open Go.RowKit

set_option maxRecDepth 1000000 in
set_option maxHeartbeats 16000000 in
theorem arm5 {w0 : World} {B tb mb : Nat} {a : Option Addr} {l cap : Nat} {ls : List Stp} {i : Nat} {M : QM} {n : Nat} {L : List Quo} {x : Stp} {at' : Int} {q : Quo} {G R : Nat} {T : Array Value} {w : World} (h : ArmI w0 B tb mb a l cap ls i M n L x at' q G R T w) :
    (runC 59).wp Try.prog (ArmO w0 B tb mb a l cap ls i) ⟨T, []⟩ w := by
  have H := hid h
  have e0 := h.sit.t0
  have e3 := h.sit.t3
  have e5 := h.sit.t5
  have e6 := h.t6
  have e7 := h.t7
  have e9 := h.t9
  have e10 := h.t10
  have e11 := h.t11
  obtain ⟨v4, e4⟩ : ∃ v4, tm T 4 = v4 := ⟨_, rfl⟩
  rw [frameT h.sit.size, e0, e3, e4, e5, e6, e7, e9, e10, e11]
  have e4' := hid e4
  have XOK := hid h.xok
  have QOK := hid h.qok
  have lo := h.sit.lo
  have gr := h.gr
  have glt := (Array.getElem?_eq_some_iff.1 h.s).1
  have rlt := (Array.getElem?_eq_some_iff.1 h.q).1
  have f1 := gen_range (row_range h.s) 1 32
  rw [Stp.no_at h.xok] at f1
  have HS := hid h.s
  have HQ := hid h.q
  have un := Try.underlying30
  have hiH : (Try.prog.info? 30).map (·.size) = some (nums .u8 x.no).length := by rw [nums_length, h.xok.nl]; exact infoH
  clear e0 e3 e4 e5 e6 e7 e9 e10 e11 h
  conv => arg 2; whnf
  have c66 : w.cell? ⟨G, 66, none⟩ = some (.int .u64 (x.a : Int)) := gen_cell (j := 66) (row_range HS.out) (Stp.get XOK.out 1)
  go_wp2_with (refine wpList_load_mid rfl _ _ rfl G 1 rfl (nums .u8 x.no) _ f1 un rfl hiH ?_)
  refine (undo_walk tb mb n M x.no ⟨XOK.out.nl, XOK.out.nb⟩ x.a XOK.out.ab w H.out.sit.tab).mono ?_
  rintro e w1 ⟨rfl, t1, fr⟩
  have T1 := hid t1
  have FR := hid fr
  have HS1 := hid (heap_far HS.out fr (by omega))
  have HQ1 := hid (heap_far HQ.out fr (by omega))
  have own1 := hid (H.out.sit.row_far fr)
  rw [e4'.out] at own1
  clear t1 fr
  clear f1 c66
  have c66 : w1.cell? ⟨G, 66, none⟩ = some (.int .u64 (x.a : Int)) := gen_cell (j := 66) (row_range HS1.out) (Stp.get XOK.out 1)
  rcases H.out.at' with ⟨rfl, hm, rfl⟩ | ⟨j, rfl, hj, hno, hm⟩
  · have hr : undoS (M x.no) x.a = (qz, 5) := by rw [hm]; rfl
    rw [hr] at T1 ⊢
    go_wp2
    refine ⟨rfl, rfl, M, n, L, 5, ?_, rfl, rfl⟩
    exact H.out.sit.go rfl rfl rfl rfl T1.out H.out.sit.tl own1.out (FR.out.below H.out.sit.lo.1 H.out.sit.bel.size) H.out.sit.few.1
  · have tj : decide (((j : Nat) : Int) < 0) = false := by rw [decide_eq_false_iff_not]; omega
    have d70 : w1.cell? ⟨R, 70, none⟩ = some (.int .u64 (q.used : Int)) := gen_cell (j := 70) (row_range HQ1.out) (Quo.get QOK.out 6)
    by_cases hlt : q.used < x.a
    · have hr : undoS (M x.no) x.a = (qz, 11) := by rw [hm]; unfold undoS; simp only; rw [if_pos hlt]
      have tl : decide ((q.used : Int) < x.a) = true := by rw [decide_eq_true_eq]; omega
      have tl' : decide (q.used < x.a) = true := decide_eq_true hlt
      rw [hr] at T1 ⊢
      go_wp2
      refine ⟨rfl, rfl, M, n, L, 11, ?_, rfl, rfl⟩
      exact H.out.sit.go rfl rfl rfl rfl T1.out H.out.sit.tl own1.out (FR.out.below H.out.sit.lo.1 H.out.sit.bel.size) H.out.sit.few.1
    obtain ⟨q', hq'⟩ : ∃ q', q' = { q with used := q.used - x.a } := ⟨_, rfl⟩
    have hr : undoS (M x.no) x.a = (q', 0) := by rw [hm, hq']; unfold undoS; simp only; rw [if_neg hlt]
    have tl : decide ((q.used : Int) < x.a) = false := by rw [decide_eq_false_iff_not]; omega
    have tl' : decide (q.used < x.a) = false := decide_eq_false hlt
    have ow0 := own1.out
    have lenL := H.out.sit.tl.len
    have hjn : j < n := by have := (List.getElem?_eq_some_iff.1 hj).1; omega
    obtain ⟨g, c, rfl⟩ := own_slice ow0 (by omega)
    have tj2 : decide (j < n) = true := decide_eq_true hjn
    have og := (ow0.lt g rfl).1
    have ol1 := ow0.1
    have hc := (ow0.cellAt (j * 71 + 70) (by omega)).trans (flatQ_at H.out.sit.tl.ok hj (Quo.get QOK.out 6))
    have hfz := ow0.frozenAt (j * 71 + 70)
    replace hc : w1.cell? ⟨g, j * 71 + 70, none⟩ = some (.int .u64 (q.used : Int)) := hc
    have sb := QOK.out.sb
    have ew : IntKind.u64.wrap ((q.used : Int) - x.a) = ((q.used - x.a : Nat) : Int) := by rw [IntKind.wrap_u64]; omega
    rw [hr] at T1 ⊢
    go_wp2_with (fail)
    go_region
    clear hfz hc
    have ow := (ow0.stored (j * 71 + 70) (.int .u64 ((q.used - x.a : Nat) : Int))).1
    rw [flatQ_set H.out.sit.tl.ok hj (by decide) (q' := q') (by rw [Quo.set QOK.out 6, hq']; rfl)] at ow
    refine H.out.stored hj hno T1.out FR.out ow0 (by rw [hq']; exact { QOK.out with sb := (show q.used - x.a < 18446744073709551616 by omega) }) (by rw [hq']) (by rw [hq']; exact H.out.sit.tl.rt q (List.mem_of_getElem? hj)) (by rw [hq']; exact H.out.sit.tl.st q (List.mem_of_getElem? hj)) ow.drew ((Far.set _).trans (Far.of (Below.refl _ _).drew)) rfl rfl rfl rfl rfl rfl rfl
end Go.Proofs.Ytibjkpejbihcpaa

/- TableRuns' arms: Accept. -/
namespace Go.Proofs.Ytibjkpejbihcpaa
open Go.RowKit

set_option maxRecDepth 1000000 in
set_option maxHeartbeats 16000000 in
theorem arm1 {w0 : World} {B tb mb : Nat} {a : Option Addr} {l cap : Nat} {ls : List Stp} {i : Nat} {M : QM} {n : Nat} {L : List Quo} {x : Stp} {at' : Int} {q : Quo} {G R : Nat} {T : Array Value} {w : World} (h : ArmI w0 B tb mb a l cap ls i M n L x at' q G R T w) :
    (runC 30).wp Try.prog (ArmO w0 B tb mb a l cap ls i) ⟨T, []⟩ w := by
  have H := hid h
  have e0 := h.sit.t0
  have e3 := h.sit.t3
  have e5 := h.sit.t5
  have e6 := h.t6
  have e7 := h.t7
  have e9 := h.t9
  have e10 := h.t10
  have e11 := h.t11
  obtain ⟨v4, e4⟩ : ∃ v4, tm T 4 = v4 := ⟨_, rfl⟩
  rw [frameT h.sit.size, e0, e3, e4, e5, e6, e7, e9, e10, e11]
  have e4' := hid e4
  have XOK := hid h.xok
  have QOK := hid h.qok
  have lo := h.sit.lo
  have gr := h.gr
  have glt := (Array.getElem?_eq_some_iff.1 h.s).1
  have rlt := (Array.getElem?_eq_some_iff.1 h.q).1
  have f1 := gen_range (row_range h.s) 1 32
  rw [Stp.no_at h.xok] at f1
  have HS := hid h.s
  have HQ := hid h.q
  have un := Try.underlying30
  have hiH : (Try.prog.info? 30).map (·.size) = some (nums .u8 x.no).length := by rw [nums_length, h.xok.nl]; exact infoH
  clear e0 e3 e4 e5 e6 e7 e9 e10 e11 h
  conv => arg 2; whnf
  have f68 := gen_range (row_range HS.out) 68 2
  replace f68 : w.rangeAt G 68 [.int .u64 (x.rc : Int), .int .u64 (x.ru : Int)] := by rw [Stp.rate_at XOK.out] at f68; exact f68
  have unR := Try.underlying24
  have hiR : (Try.prog.info? 24).map (·.size) = some ([.int .u64 (x.rc : Int), .int .u64 (x.ru : Int)] : List Value).length := by kernel_rfl
  have c70 : w.cell? ⟨G, 70, none⟩ = some (.int .i64 x.h) := gen_cell (j := 70) (row_range HS.out) (Stp.get XOK.out 5)
  go_wp2_with (first | refine wpList_load_mid rfl _ _ rfl G 1 rfl (nums .u8 x.no) _ f1 un rfl hiH ?_ | refine wpList_load_mid rfl _ _ rfl G 68 rfl [.int .u64 (x.rc : Int), .int .u64 (x.ru : Int)] _ f68 unR rfl hiR ?_)
  refine (acc_walk tb mb n M x.no ⟨XOK.out.nl, XOK.out.nb⟩ x.rc x.ru XOK.out.cb XOK.out.ub x.h XOK.out.hw w H.out.sit.tab).mono ?_
  rintro e w1 ⟨rfl, t1, fr⟩
  have T1 := hid t1
  have FR := hid fr
  have HS1 := hid (heap_far HS.out fr (by omega))
  have HQ1 := hid (heap_far HQ.out fr (by omega))
  have own1 := hid (H.out.sit.row_far fr)
  rw [e4'.out] at own1
  clear t1 fr
  clear f1 f68 c70
  have c68 : w1.cell? ⟨G, 68, none⟩ = some (.int .u64 (x.rc : Int)) := gen_cell (j := 68) (row_range HS1.out) (Stp.get XOK.out 3)
  have c69 : w1.cell? ⟨G, 69, none⟩ = some (.int .u64 (x.ru : Int)) := gen_cell (j := 69) (row_range HS1.out) (Stp.get XOK.out 4)
  have c70 : w1.cell? ⟨G, 70, none⟩ = some (.int .i64 x.h) := gen_cell (j := 70) (row_range HS1.out) (Stp.get XOK.out 5)
  by_cases hh : x.h < 0 ∨ 1073741824 < x.h
  · have hr : accS (M x.no) x.rc x.ru x.h = (qz, 1) := if_pos hh
    by_cases h0 : x.h < 0
    · have tg : decide (x.h < 0) = true := decide_eq_true h0
      rw [hr] at T1 ⊢
      go_wp2
      refine ⟨rfl, rfl, M, n, L, 1, ?_, rfl, rfl⟩
      exact H.out.sit.go rfl rfl rfl rfl T1.out H.out.sit.tl own1.out (FR.out.below H.out.sit.lo.1 H.out.sit.bel.size) H.out.sit.few.1
    have tg : decide (x.h < 0) = false := decide_eq_false h0
    have tg2 : decide (x.h > 1073741824) = true := decide_eq_true (by omega)
    have tg3 : decide (1073741824 < x.h) = true := decide_eq_true (by omega)
    rw [hr] at T1 ⊢
    go_wp2
    refine ⟨rfl, rfl, M, n, L, 1, ?_, rfl, rfl⟩
    exact H.out.sit.go rfl rfl rfl rfl T1.out H.out.sit.tl own1.out (FR.out.below H.out.sit.lo.1 H.out.sit.bel.size) H.out.sit.few.1
  have tg : decide (x.h < 0) = false := decide_eq_false (by omega)
  have tg2 : decide (x.h > 1073741824) = false := decide_eq_false (by omega)
  have tg3 : decide (1073741824 < x.h) = false := decide_eq_false (by omega)
  by_cases hz : x.rc = 0 ∨ x.ru = 0
  · have hr : accS (M x.no) x.rc x.ru x.h = (qz, 60) := by unfold accS; rw [if_neg hh, if_pos hz]
    by_cases h0 : x.rc = 0
    · have tc : ((x.rc : Int) == 0) = true := by simp [h0]
      rw [hr] at T1 ⊢
      go_wp2
      refine ⟨rfl, rfl, M, n, L, 60, ?_, rfl, rfl⟩
      exact H.out.sit.go rfl rfl rfl rfl T1.out H.out.sit.tl own1.out (FR.out.below H.out.sit.lo.1 H.out.sit.bel.size) H.out.sit.few.1
    have tc : ((x.rc : Int) == 0) = false := by simp; exact h0
    have tc2 : ((x.ru : Int) == 0) = true := by simp; omega
    rw [hr] at T1 ⊢
    go_wp2
    refine ⟨rfl, rfl, M, n, L, 60, ?_, rfl, rfl⟩
    exact H.out.sit.go rfl rfl rfl rfl T1.out H.out.sit.tl own1.out (FR.out.below H.out.sit.lo.1 H.out.sit.bel.size) H.out.sit.few.1
  have tc : ((x.rc : Int) == 0) = false := by simp; omega
  have tc2 : ((x.ru : Int) == 0) = false := by simp; omega
  rcases H.out.at' with ⟨rfl, hm, rfl⟩ | ⟨j, rfl, hj, hno, hm⟩
  · have hr : accS (M x.no) x.rc x.ru x.h = (qz, 5) := by unfold accS; rw [if_neg hh, if_neg hz, hm]; rfl
    rw [hr] at T1 ⊢
    go_wp2
    refine ⟨rfl, rfl, M, n, L, 5, ?_, rfl, rfl⟩
    exact H.out.sit.go rfl rfl rfl rfl T1.out H.out.sit.tl own1.out (FR.out.below H.out.sit.lo.1 H.out.sit.bel.size) H.out.sit.few.1
  · have tj : decide (((j : Nat) : Int) < 0) = false := by rw [decide_eq_false_iff_not]; omega
    have d66 : w1.cell? ⟨R, 66, none⟩ = some (.int .i64 q.st) := gen_cell (j := 66) (row_range HQ1.out) (Quo.get QOK.out 2)
    by_cases hst : q.st = 0
    case neg =>
      have hr : accS (M x.no) x.rc x.ru x.h = (qz, 52) := by unfold accS; rw [if_neg hh, if_neg hz, hm]; simp [openS, hst]
      have ts : (q.st != 0) = true := by simp [hst]
      rw [hr] at T1 ⊢
      go_wp2
      refine ⟨rfl, rfl, M, n, L, 52, ?_, rfl, rfl⟩
      exact H.out.sit.go rfl rfl rfl rfl T1.out H.out.sit.tl own1.out (FR.out.below H.out.sit.lo.1 H.out.sit.bel.size) H.out.sit.few.1
    obtain ⟨q', hq'⟩ : ∃ q', q' = { q with st := 1, rc := x.rc, ru := x.ru, til := x.h } := ⟨_, rfl⟩
    have hr : accS (M x.no) x.rc x.ru x.h = (q', 0) := by unfold accS; rw [if_neg hh, if_neg hz, hm, hq']; simp [openS, hst]
    have ts : (q.st != 0) = false := by simp [hst]
    have ow0 := own1.out
    have lenL := H.out.sit.tl.len
    have hjn : j < n := by have := (List.getElem?_eq_some_iff.1 hj).1; omega
    obtain ⟨g, c, rfl⟩ := own_slice ow0 (by omega)
    have tj2 : decide (j < n) = true := decide_eq_true hjn
    have og := (ow0.lt g rfl).1
    have ol1 := ow0.1
    have TLO := H.out.sit.tl.ok
    have q1o : ({ q with st := 1 } : Quo).ok := { QOK.out with sw := (show (Lit.int .i64 1).wf = true by decide) }
    have hc := (ow0.cellAt (j * 71 + 66) (by omega)).trans (flatQ_at TLO hj (Quo.get QOK.out 2))
    have hfz := ow0.frozenAt (j * 71 + 66)
    rw [hr] at T1 ⊢
    go_upto_region 32 with (fail)
    clear hc hfz
    have s1 := (ow0.stored (j * 71 + 66) (.int .i64 1)).1
    have gG : g ≠ G := by have := own1.out.lt g rfl; have := H.out.gr.2.2.2 g (by rw [e4'.out]; rfl); exact this.1
    have F1 := hid (Far.set (H := g) (j := j * 71 + 66) (w := w1) (.int .i64 1))
    have HS2 := hid (heap_far HS1.out F1.out (fun e => gG e.symm))
    generalize w1.setCell ⟨g, j * 71 + 66, none⟩ (.int .i64 1) = w2 at *
    rw [flatQ_set TLO hj (by decide) (q' := { q with st := 1 }) (by rw [Quo.set QOK.out 2]; rfl)] at s1
    have S1 := hid s1
    have hjl : j < L.length := (List.getElem?_eq_some_iff.1 hj).1
    have TL1 := okSet TLO q1o (j := j)
    have hj1 : (L.set j { q with st := 1 })[j]? = some { q with st := 1 } := List.getElem?_set_self hjl
    clear s1 c68 c69 c70
    have c68 : w2.cell? ⟨G, 68, none⟩ = some (.int .u64 (x.rc : Int)) := gen_cell (j := 68) (row_range HS2.out) (Stp.get XOK.out 3)
    have c69 : w2.cell? ⟨G, 69, none⟩ = some (.int .u64 (x.ru : Int)) := gen_cell (j := 69) (row_range HS2.out) (Stp.get XOK.out 4)
    have c70 : w2.cell? ⟨G, 70, none⟩ = some (.int .i64 x.h) := gen_cell (j := 70) (row_range HS2.out) (Stp.get XOK.out 5)
    have hc := (S1.out.cellAt (j * 71 + 67) (by omega)).trans (flatQ_at TL1 hj1 (Quo.get q1o 3))
    have hfz := S1.out.frozenAt (j * 71 + 67)
    have hc' := (S1.out.cellAt (j * 71 + 67 + 1) (by omega)).trans (flatQ_at TL1 hj1 (Quo.get q1o 4))
    have hfz' := S1.out.frozenAt (j * 71 + 67 + 1)
    replace hc : w2.cell? ⟨g, j * 71 + 67, none⟩ = some (.int .u64 (q.rc : Int)) := hc
    replace hc' : w2.cell? ⟨g, j * 71 + 67 + 1, none⟩ = some (.int .u64 (q.ru : Int)) := hc'
    go_upto_region 33 with (fail)
    clear hc hfz hc' hfz'
    have s2 := (S1.out.stored (j * 71 + 67) (.int .u64 (x.rc : Int))).1
    have q2o : ({ q with st := 1, rc := x.rc } : Quo).ok := { q1o with cb := (show x.rc < 18446744073709551616 from XOK.out.cb) }
    rw [flatQ_set TL1 hj1 (by decide) (q' := { q with st := 1, rc := x.rc }) (by rw [Quo.set q1o 3]; rfl), List.set_set] at s2
    have TL2 := okSet TLO q2o (j := j)
    have hj2 : (L.set j { q with st := 1, rc := x.rc })[j]? = some { q with st := 1, rc := x.rc } := List.getElem?_set_self hjl
    have s3 := (s2.stored (j * 71 + 67 + 1) (.int .u64 (x.ru : Int))).1
    have q3o : ({ q with st := 1, rc := x.rc, ru := x.ru } : Quo).ok := { q2o with ub := (show x.ru < 18446744073709551616 from XOK.out.ub) }
    rw [show j * 71 + 67 + 1 = j * 71 + 68 from rfl, flatQ_set TL2 hj2 (by decide) (q' := { q with st := 1, rc := x.rc, ru := x.ru }) (by rw [Quo.set q2o 4]; rfl), List.set_set] at s3
    have TL3 := okSet TLO q3o (j := j)
    have hj3 : (L.set j { q with st := 1, rc := x.rc, ru := x.ru })[j]? = some { q with st := 1, rc := x.rc, ru := x.ru } := List.getElem?_set_self hjl
    have F2 := hid ((Far.set (H := g) (j := j * 71 + 67) (w := w2) (.int .u64 (x.rc : Int))).trans (Far.set (H := g) (j := j * 71 + 67 + 1) (.int .u64 (x.ru : Int))))
    have HS3 := hid (heap_far HS2.out F2.out (fun e => gG e.symm))
    replace s3 : ((w2.setCell ⟨g, j * 71 + 67, none⟩ (.int .u64 (x.rc : Int))).setCell ⟨g, j * 71 + 67 + 1, none⟩ (.int .u64 (x.ru : Int))).ownsRow B 43 71 (.slice (some ⟨g, 0, none⟩) n c) n ((L.set j { q with st := 1, rc := x.rc, ru := x.ru }).flatMap Quo.cells) := s3
    clear s2
    generalize (w2.setCell ⟨g, j * 71 + 67, none⟩ (.int .u64 (x.rc : Int))).setCell ⟨g, j * 71 + 67 + 1, none⟩ (.int .u64 (x.ru : Int)) = w3 at *
    have S3 := hid s3
    clear s3 c68 c69 c70
    have c70 : w3.cell? ⟨G, 70, none⟩ = some (.int .i64 x.h) := gen_cell (j := 70) (row_range HS3.out) (Stp.get XOK.out 5)
    have hc := (S3.out.cellAt (j * 71 + 69) (by omega)).trans (flatQ_at TL3 hj3 (Quo.get q3o 5))
    have hfz := S3.out.frozenAt (j * 71 + 69)
    replace hc : w3.cell? ⟨g, j * 71 + 69, none⟩ = some (.int .i64 q.til) := hc
    go_wp2_with (fail)
    clear hc hfz
    have s4 := (S3.out.stored (j * 71 + 69) (.int .i64 x.h)).1
    have q4o : ({ q with st := 1, rc := x.rc, ru := x.ru, til := x.h } : Quo).ok := { q3o with tw := (show (Lit.int .i64 x.h).wf = true from XOK.out.hw) }
    rw [flatQ_set TL3 hj3 (by decide) (q' := { q with st := 1, rc := x.rc, ru := x.ru, til := x.h }) (by rw [Quo.set q3o 5]; rfl), List.set_set, ← hq'] at s4
    rw [← hq'] at q4o
    exact H.out.stored hj hno T1.out FR.out ow0 q4o (by rw [hq']) (by rw [hq']; exact fun _ => hz) (by rw [hq']; exact .inr (.inl rfl)) s4 ((F1.out.trans F2.out).trans (Far.set _)) rfl rfl rfl rfl rfl rfl rfl
end Go.Proofs.Ytibjkpejbihcpaa
