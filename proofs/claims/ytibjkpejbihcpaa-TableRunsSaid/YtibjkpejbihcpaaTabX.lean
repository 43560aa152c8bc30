/- The law's product and use. -/
import Derived.Test.YtibjkpejbihcpaaTabS
namespace Go.Proofs.Ytibjkpejbihcpaa
open Go.RowKit

set_option maxHeartbeats 1000000 in
theorem product_walk (x y : Nat) (hx : x < 18446744073709551616) (hy : y < 18446744073709551616) (w : World) :
    Calls Try.prog 39 #[.int .u64 x, .int .u64 y] w (ResD w (x * y)) := by
  go_enter Try.func39, Try.ntmps39
  go_wp2_with (fail)
  refine (of_walk x hx _).mono ?_
  rintro e w1 ⟨v1, y1, rfl, d1, ⟨a1, c1, rfl, s1⟩, b1⟩
  have l1 := d1.len8 hx
  go_wp2_with (fail)
  refine (of_walk y hy _).mono ?_
  rintro e w2 ⟨v2, y2, rfl, d2, ⟨a2, c2, rfl, s2⟩, b2⟩
  have l2 := d2.len8 hy
  go_wp2_with (fail)
  refine (mul_walk a1 a2 _ _ _ _ x y y1 y2 (by omega) (by omega) _ (s1.below b2) d1 s2 d2).mono ?_
  rintro e w3 ⟨v3, y3, rfl, d3, s3, b3⟩
  go_wp2
  go_ret
  exact ⟨v3, y3, rfl, d3, s3, bstep (bstep b1 b2) b3⟩
/-- what a Sell or a Buy tells, by the page; how much is used then -/
def useW (q : Quo) (there : Bool) (s : Stp) : Nat × Nat :=
  if s.a = 0 then (1, 0) else if there = false then (5, 0) else if q.st ≠ 1 then (52, 0) else if q.til < s.h then (33, 0) else
  if ¬ q.used + s.a < 18446744073709551616 ∨ q.most < q.used + s.a then (51, 0) else
  if (q.buy ≠ decide (s.k = 4) ∨ (s.k = 3 ∧ s.a * q.rc < s.b * q.ru)) ∨ (s.k = 4 ∧ s.b * q.ru < s.a * q.rc) then (60, 0) else (0, q.used + s.a)
def UseRes (w : World) (r : Nat × Nat) (e : Ending) (w' : World) : Prop := e = .returned (.tuple #[.int .i64 ((r.1 : Nat) : Int), .int .u64 ((r.2 : Nat) : Int)]) ∧ Below w.heap.size w w'
theorem UseRes.of {w w' : World} {r : Nat × Nat} {x y : Nat} {e : Ending} (h : r = (x, y)) (he : e = .returned (.tuple #[.int .i64 ((x : Nat) : Int), .int .u64 ((y : Nat) : Int)])) (hb : Below w.heap.size w w') : UseRes w r e w' := by subst h; exact ⟨he, hb⟩
theorem cmpI_neg (x y : Nat) : decide (cmpI x y < 0) = decide (x < y) := by
  rw [decide_eq_decide]
  unfold cmpI
  split
  · constructor <;> intro <;> omega
  · split <;> constructor <;> intro <;> omega
theorem cmpI_pos (x y : Nat) : decide (cmpI x y > 0) = decide (y < x) := by
  rw [decide_eq_decide]
  unfold cmpI
  split
  · constructor <;> intro <;> omega
  · split <;> constructor <;> intro <;> omega
theorem num_as {a : Option Addr} {cap x U : Nat} {B : Bool} {xs : List Nat} {w : World} (h : Sl .i64 w a xs.length cap xs) (hx : Dig xs x) (hn : xs.length ≤ 4294967296) (hU : (if x < 18446744073709551616 then x else 0) = U) (hB : decide (x < 18446744073709551616) = B) :
    Calls Try.prog 17 #[.slice a xs.length cap] w (fun e w' => e = .returned (.tuple #[.int .u64 (U : Int), .bool B]) ∧ w = w') := by
  subst hU
  subst hB
  exact num_walk a _ cap x xs w h hx hn
set_option maxRecDepth 100000 in
set_option maxHeartbeats 8000000 in
theorem use_walk (q : Quo) (there : Bool) (s : Stp) (hq : q.ok) (hs : s.ok) (w : World) :
    Calls Try.prog 26 #[.agg q.cells.toArray, .bool there, .agg s.cells.toArray] w (UseRes w (useW q there s)) := by
  have A2 := alloc2p w (.cells q.cells.toArray 43) (.cells s.cells.toArray 38)
  have rq := row_range A2.1
  have rs := row_range A2.2.1
  have gc := @gen_cell
  have d0 := gen_cell rq (Quo.get hq 0)
  have d2 := gen_cell rq (Quo.get hq 1)
  have d3 := gen_cell rq (Quo.get hq 2)
  have d4 := gen_cell rq (Quo.get hq 3)
  have d5 := gen_cell rq (Quo.get hq 4)
  have d6 := gen_cell rq (Quo.get hq 5)
  have d7 := gen_cell rq (Quo.get hq 6)
  have e0 : w.heap.size + 1 < w.heap.size + 1 + 1 := by omega
  have c0 := gen_cell rs (show s.cells[0]? = some (.int .i64 s.k) from rfl)
  have c1 := gen_cell rs (Stp.get hs 1)
  have c2 := gen_cell rs (Stp.get hs 2)
  have c5 := gen_cell rs (Stp.get hs 5)
  obtain ⟨BD⟩ := (⟨A2.2.2.2⟩ : PLift (Below w.heap.size w ((w.alloc (.cells q.cells.toArray 43)).alloc (.cells s.cells.toArray 38))))
  have BD := hid BD
  have qsb := hq.sb
  have qrc := hq.cb
  have qru := hq.ub
  have sa := hs.ab
  have sb := hs.bb
  have HU := hid (rfl : useW q there s = useW q there s)
  conv at HU => arg 1; rhs; unfold useW
  clear A2 rq rs hq hs e0 gc
  go_enter Try.func26, Try.ntmps26
  go_upto_region 1 with (fail)
  generalize (w.alloc (Obj.cells q.cells.toArray 43)).alloc (Obj.cells s.cells.toArray 38) = w1 at *
  replace d0 : w1.cell? ⟨w.heap.size, 64, none⟩ = some (.bool q.buy) := d0
  replace d2 : w1.cell? ⟨w.heap.size, 65, none⟩ = some (.int .u64 (q.most : Int)) := d2
  replace d3 : w1.cell? ⟨w.heap.size, 66, none⟩ = some (.int .i64 q.st) := d3
  replace d4 : w1.cell? ⟨w.heap.size, 67, none⟩ = some (.int .u64 (q.rc : Int)) := d4
  replace d5 : w1.cell? ⟨w.heap.size, 68, none⟩ = some (.int .u64 (q.ru : Int)) := d5
  replace d6 : w1.cell? ⟨w.heap.size, 69, none⟩ = some (.int .i64 q.til) := d6
  replace d7 : w1.cell? ⟨w.heap.size, 70, none⟩ = some (.int .u64 (q.used : Int)) := d7
  replace c0 : w1.cell? ⟨w.heap.size + 1, 0, none⟩ = some (.int .i64 s.k) := c0
  replace c1 : w1.cell? ⟨w.heap.size + 1, 66, none⟩ = some (.int .u64 (s.a : Int)) := c1
  replace c2 : w1.cell? ⟨w.heap.size + 1, 67, none⟩ = some (.int .u64 (s.b : Int)) := c2
  replace c5 : w1.cell? ⟨w.heap.size + 1, 70, none⟩ = some (.int .i64 s.h) := c5
  obtain ⟨U, hU⟩ : ∃ U, (if q.used + s.a < 18446744073709551616 then q.used + s.a else 0) = U := ⟨_, rfl⟩
  obtain ⟨B, hB⟩ : ∃ B, decide (q.used + s.a < 18446744073709551616) = B := ⟨_, rfl⟩
  have HUU := hid hU
  have HBB := hid hB
  clear hU hB
  have O1 := fun wx => hid (of_walk q.used qsb wx)
  have O2 := fun wx => hid (of_walk s.a sa wx)
  go_region_held3 (fun w' => w'.cell? ⟨w.heap.size, 70, none⟩ = some (Value.int .u64 (q.used : Int)) ∧ w'.cell? ⟨w.heap.size + 1, 66, none⟩ = some (Value.int .u64 (s.a : Int)))
    (first
      | exact ⟨d7, c1⟩
      | exact ⟨cell_keep b1 d7, cell_keep b1 c1⟩
      | exact ⟨cell_keep b2 (cell_keep b1 d7), cell_keep b2 (cell_keep b1 c1)⟩
      | exact ⟨cell_keep b3 (cell_keep b2 (cell_keep b1 d7)), cell_keep b3 (cell_keep b2 (cell_keep b1 c1))⟩
      | fail)
    (first
      | (go_at_call 15; (with_reducible refine (O1 _).out.mono ?_); rintro e w21 ⟨v1, y1, rfl, d1, ⟨a1, k1, rfl, s1⟩, b1⟩)
      | (go_at_call 15; (with_reducible refine (O2 _).out.mono ?_); rintro e w22 ⟨v2, y2, rfl, d2', ⟨a2, k2, rfl, s2⟩, b2⟩)
      | (go_at_call 14; (refine (add_walk _ _ _ _ _ _ q.used s.a y1 y2 (by have := d1.len8 qsb; omega) (by have := d2'.len8 sa; omega) _ (s1.below b2) d1 s2 d2').mono ?_); rintro e w23 ⟨v3, y3, rfl, dd3, ⟨a3, k3, rfl, s3⟩, b3⟩)
      | (go_at_call 17; (refine (num_as s3 dd3 (by have := dd3.len16 (by omega); omega) HUU.out HBB.out).mono ?_); rintro e w24 ⟨rfl, rfl⟩)
      | fail)
  have b123 := bstep (bstep b1 b2) b3
  have C1 := cell_keep b123 c1
  have C2 := cell_keep b123 c2
  have C5 := cell_keep b123 c5
  have C0 := cell_keep b123 c0
  have D0 := cell_keep b123 d0
  have D2 := cell_keep b123 d2
  have D3 := cell_keep b123 d3
  have D4 := cell_keep b123 d4
  have D5 := cell_keep b123 d5
  have D6 := cell_keep b123 d6
  have BE := hid (bstep BD.out.drew b123)
  clear BD d0 d2 d3 d4 d5 d6 d7 c0 c1 c2 c5 b1 b2 b3 b123 s1 s2 s3 d1 d2' dd3
  have P1 := fun wx => hid (product_walk s.a q.rc sa qrc wx)
  have P2 := fun wx => hid (product_walk s.b q.ru sb qru wx)
  go_upto_region 2 with (fail)
  go_region_held3 (fun w' => w'.cell? ⟨w.heap.size, 67, none⟩ = some (Value.int .u64 (q.rc : Int)) ∧ w'.cell? ⟨w.heap.size, 68, none⟩ = some (Value.int .u64 (q.ru : Int)) ∧ w'.cell? ⟨w.heap.size + 1, 66, none⟩ = some (Value.int .u64 (s.a : Int)) ∧ w'.cell? ⟨w.heap.size + 1, 67, none⟩ = some (Value.int .u64 (s.b : Int)))
    (first
      | exact ⟨D4, D5, C1, C2⟩
      | exact ⟨cell_keep b1 D4, cell_keep b1 D5, cell_keep b1 C1, cell_keep b1 C2⟩
      | exact ⟨cell_keep b2 (cell_keep b1 D4), cell_keep b2 (cell_keep b1 D5), cell_keep b2 (cell_keep b1 C1), cell_keep b2 (cell_keep b1 C2)⟩
      | exact ⟨cell_keep b3 (cell_keep b2 (cell_keep b1 D4)), cell_keep b3 (cell_keep b2 (cell_keep b1 D5)), cell_keep b3 (cell_keep b2 (cell_keep b1 C1)), cell_keep b3 (cell_keep b2 (cell_keep b1 C2))⟩
      | fail)
    (first
      | (go_at_call 39; (with_reducible refine (P1 _).out.mono ?_); rintro e w21 ⟨v1, y1, rfl, d1, ⟨a1, k1, rfl, s1⟩, b1⟩)
      | (go_at_call 39; (with_reducible refine (P2 _).out.mono ?_); rintro e w22 ⟨v2, y2, rfl, d2, ⟨a2, k2, rfl, s2⟩, b2⟩)
      | (go_at_call 18; (refine (cmp_two (Nat.mul_lt_mul'' sa qrc) (Nat.mul_lt_mul'' sb qru) s1 d1 b2 s2 d2).mono ?_); rintro e w23 ⟨rfl, b3⟩)
      | fail)
  have b123 := bstep (bstep b1 b2) b3
  have c1 := cell_keep b123 C1
  have c2 := cell_keep b123 C2
  have c5 := cell_keep b123 C5
  have c0 := cell_keep b123 C0
  have d0 := cell_keep b123 D0
  have f2 := cell_keep b123 D2
  have d3 := cell_keep b123 D3
  have d6 := cell_keep b123 D6
  have BF := hid (bstep BE.out.drew b123)
  clear BE D0 D2 D3 D4 D5 D6 C0 C1 C2 C5 b1 b2 b3 b123 s1 s2 d1 d2
  obtain ⟨ua, hua⟩ : ∃ ua, ua = s.a := ⟨_, rfl⟩
  obtain ⟨cc, hcc⟩ : ∃ cc, cc = cmpI (s.a * q.rc) (s.b * q.ru) := ⟨_, rfl⟩
  have HC := hid hcc
  rw [← hcc]
  clear hcc hua
  by_cases ha : s.a = 0
  · have t1 : ((s.a : Int) == 0) = true := by simp [ha]
    go_wp2
    refine bodyPost_ret (results_tmp2 rfl _ _ _) rfl ?_
    exact UseRes.of ((by unfold useW; rw [if_pos ha])) rfl BF.out
  have t1 : ((s.a : Int) == 0) = false := by simp; exact ha
  cases there with
  | false =>
    go_wp2
    refine bodyPost_ret (results_tmp2 rfl _ _ _) rfl ?_
    exact UseRes.of ((by unfold useW; rw [if_neg ha, if_pos rfl])) rfl BF.out
  | true =>
  by_cases hst : q.st = 1
  case neg =>
    have t2 : (q.st != 1) = true := by simp [hst]
    go_wp2
    refine bodyPost_ret (results_tmp2 rfl _ _ _) rfl ?_
    exact UseRes.of ((by unfold useW; rw [if_neg ha, if_neg (by simp), if_pos hst])) rfl BF.out
  have t2 : (q.st != 1) = false := by simp [hst]
  by_cases hti : q.til < s.h
  · have t3 : decide (s.h > q.til) = true := by simpa using hti
    have t3' : decide (q.til < s.h) = true := by simpa using hti
    go_wp2
    refine bodyPost_ret (results_tmp2 rfl _ _ _) rfl ?_
    exact UseRes.of ((by unfold useW; rw [if_neg ha, if_neg (by simp), if_neg (by simp [hst]), if_pos hti])) rfl BF.out
  have t3 : decide (s.h > q.til) = false := by simpa using hti
  have t3' : decide (q.til < s.h) = false := by simpa using hti
  by_cases hf : ¬ q.used + s.a < 18446744073709551616 ∨ q.most < q.used + s.a
  · have t4 : (!B) = true ∨ (B = true ∧ decide ((U : Int) > q.most) = true) := by
      have h1 := HUU.out
      have h2 := HBB.out
      rcases hf with hf | hf
      · rw [decide_eq_false hf] at h2; left; rw [← h2]; rfl
      · by_cases hf' : q.used + s.a < 18446744073709551616
        · rw [if_pos hf'] at h1; rw [decide_eq_true hf'] at h2; right; refine ⟨h2.symm, ?_⟩; rw [decide_eq_true_eq]; omega
        · rw [decide_eq_false hf'] at h2; left; rw [← h2]; rfl
    have he : useW q true s = (51, 0) := by unfold useW; rw [if_neg ha, if_neg (by simp), if_neg (by simp [hst]), if_neg hti, if_pos hf]
    have HE := hid he
    clear he hf
    rcases t4 with t4 | ⟨t5, t4⟩
    · obtain rfl : B = false := by simpa using t4
      go_wp2
      refine bodyPost_ret (results_tmp2 rfl _ _ _) rfl ?_
      exact UseRes.of HE.out rfl BF.out
    · subst t5
      have t4' : decide ((q.most : Int) < U) = true := by simpa using t4
      have t4n : decide (q.most < U) = true := by simpa using t4
      go_wp2
      refine bodyPost_ret (results_tmp2 rfl _ _ _) rfl ?_
      exact UseRes.of HE.out rfl BF.out
  have hf1 : q.used + s.a < 18446744073709551616 := Decidable.not_not.1 (fun h => hf (.inl h))
  have hf2 : ¬ q.most < q.used + s.a := fun h => hf (.inr h)
  obtain rfl : true = B := by rw [← HBB.out]; exact (decide_eq_true hf1).symm
  have eU : q.used + s.a = U := by rw [← HUU.out, if_pos hf1]
  have t4 : decide ((U : Int) > q.most) = false := by rw [decide_eq_false_iff_not]; omega
  have t4' : decide ((q.most : Int) < U) = false := by rw [decide_eq_false_iff_not]; omega
  have t4n : decide (q.most < U) = false := by rw [decide_eq_false_iff_not]; omega
  have HN := hid eU
  clear eU HUU HBB hf1 hf2
  have fin : ∀ (b : Bool), (((q.buy ≠ decide (s.k = 4) ∨ (s.k = 3 ∧ s.a * q.rc < s.b * q.ru)) ∨ (s.k = 4 ∧ s.b * q.ru < s.a * q.rc)) ↔ b = true) → useW q true s = if b then (60, 0) else (0, U) := by
    intro b hb
    unfold useW
    rw [if_neg ha, if_neg (by simp), if_neg (by simp [hst]), if_neg hti, if_neg hf, HN.out]
    cases b with
    | true => rw [if_pos (hb.2 rfl), if_pos rfl]
    | false => rw [if_neg (fun h => by have := hb.1 h; cases this), if_neg (by simp)]
  have FIN := hid fin
  have clt : decide (cc < 0) = decide (s.a * q.rc < s.b * q.ru) := by rw [HC.out]; exact cmpI_neg _ _
  have cgt : decide (cc > 0) = decide (s.b * q.ru < s.a * q.rc) := by rw [HC.out]; exact cmpI_pos _ _
  clear fin hf
  obtain ⟨qb, hqb⟩ : ∃ qb, q.buy = qb := ⟨_, rfl⟩
  rw [hqb] at d0
  by_cases h4 : s.k = 4
  · have t4 : (s.k == 4) = true := by simp [h4]
    have t3 : (s.k == 3) = false := by simp [h4]
    by_cases hb : qb = true
    · subst hb
      by_cases hg : s.b * q.ru < s.a * q.rc
      · have t6 : decide (cc > 0) = true := by rw [cgt]; exact decide_eq_true hg
        have t6' : decide (0 < cc) = true := t6
        have HE := hid (FIN.out true ⟨fun _ => rfl, fun _ => .inr ⟨h4, hg⟩⟩)
        clear clt cgt
        go_wp2
        refine bodyPost_ret (results_tmp2 rfl _ _ _) rfl ?_
        exact UseRes.of HE.out rfl BF.out
      · have t6 : decide (cc > 0) = false := by rw [cgt]; exact decide_eq_false hg
        have t6' : decide (0 < cc) = false := t6
        have HE := hid (FIN.out false ⟨fun h => by rcases h with (h | h) | h; exact absurd (by rw [hqb, decide_eq_true h4]) h; exact absurd h.1 (by omega); exact absurd h.2 hg, fun h => by cases h⟩)
        clear clt cgt
        go_wp2
        refine bodyPost_ret (results_tmp2 rfl _ _ _) rfl ?_
        exact UseRes.of HE.out rfl BF.out
    · obtain rfl : qb = false := by simpa using hb
      have HE := hid (FIN.out true ⟨fun _ => rfl, fun _ => .inl (.inl (by rw [hqb, decide_eq_true h4]; decide))⟩)
      clear clt cgt
      go_wp2
      refine bodyPost_ret (results_tmp2 rfl _ _ _) rfl ?_
      exact UseRes.of HE.out rfl BF.out
  · have t4 : (s.k == 4) = false := by simp [h4]
    by_cases hb : qb = true
    · subst hb
      have HE := hid (FIN.out true ⟨fun _ => rfl, fun _ => .inl (.inl (by rw [hqb, decide_eq_false h4]; decide))⟩)
      clear clt cgt
      go_wp2
      refine bodyPost_ret (results_tmp2 rfl _ _ _) rfl ?_
      exact UseRes.of HE.out rfl BF.out
    obtain rfl : qb = false := by simpa using hb
    by_cases h3 : s.k = 3
    · have t3 : (s.k == 3) = true := by simp [h3]
      by_cases hg : s.a * q.rc < s.b * q.ru
      · have t6 : decide (cc < 0) = true := by rw [clt]; exact decide_eq_true hg
        have HE := hid (FIN.out true ⟨fun _ => rfl, fun _ => .inl (.inr ⟨h3, hg⟩)⟩)
        clear clt cgt
        go_wp2
        refine bodyPost_ret (results_tmp2 rfl _ _ _) rfl ?_
        exact UseRes.of HE.out rfl BF.out
      · have t6 : decide (cc < 0) = false := by rw [clt]; exact decide_eq_false hg
        have HE := hid (FIN.out false ⟨fun h => by rcases h with (h | h) | h; exact absurd (by rw [hqb, decide_eq_false h4]) h; exact absurd h.2 hg; exact absurd h.1 h4, fun h => by cases h⟩)
        clear clt cgt
        go_wp2
        refine bodyPost_ret (results_tmp2 rfl _ _ _) rfl ?_
        exact UseRes.of HE.out rfl BF.out
    · have t3 : (s.k == 3) = false := by simp [h3]
      have HE := hid (FIN.out false ⟨fun h => by rcases h with (h | h) | h; exact absurd (by rw [hqb, decide_eq_false h4]) h; exact absurd h.1 h3; exact absurd h.1 h4, fun h => by cases h⟩)
      clear clt cgt
      go_wp2
      refine bodyPost_ret (results_tmp2 rfl _ _ _) rfl ?_
      exact UseRes.of HE.out rfl BF.out
end Go.Proofs.Ytibjkpejbihcpaa
