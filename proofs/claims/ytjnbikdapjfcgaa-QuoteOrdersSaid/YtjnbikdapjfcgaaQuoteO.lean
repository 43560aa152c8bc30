/- The walk of the statement QuoteOrders. -/
import Derived.Test.YtjnbikdapjfcgaaQuoteP
import Derived.Test.YtjnbikdapjfcgaaQuoteL
namespace Go.Proofs.Ytjnbikdapjfcgaa
open Go.RowKit

theorem rcmp_cmpI (c u d v : Nat) : rcmp c u d v = cmpI (c * v) (d * u) := by
  unfold rcmp cmpI
  (repeat' split) <;> omega
theorem rcmp_neg (c u d v : Nat) : rcmp d v c u = -(rcmp c u d v) := by
  unfold rcmp
  (repeat' split) <;> omega
theorem rcmp_bd (c u d v : Nat) : -1 ≤ rcmp c u d v ∧ rcmp c u d v ≤ 1 := by
  unfold rcmp
  (repeat' split) <;> omega
theorem low_rate (c u : Nat) : rcmp c u (c / Nat.gcd c u) (u / Nat.gcd c u) = 0 := by
  have h1 := Nat.div_mul_cancel (Nat.gcd_dvd_left c u)
  have h2 := Nat.div_mul_cancel (Nat.gcd_dvd_right c u)
  have e : c * (u / Nat.gcd c u) = c / Nat.gcd c u * u := by
    generalize c / Nat.gcd c u = x at *
    generalize u / Nat.gcd c u = y at *
    generalize Nat.gcd c u = g at *
    rw [← h1, ← h2]
    rw [Nat.mul_assoc, Nat.mul_comm g y]
  unfold rcmp
  rw [e, if_pos (Nat.le_refl _), if_pos (Nat.le_refl _)]
theorem low_low (c u : Nat) : c / Nat.gcd c u / Nat.gcd (c / Nat.gcd c u) (u / Nat.gcd c u) = c / Nat.gcd c u ∧ u / Nat.gcd c u / Nat.gcd (c / Nat.gcd c u) (u / Nat.gcd c u) = u / Nat.gcd c u := by
  rcases Nat.eq_zero_or_pos (Nat.gcd c u) with h | h
  · rw [h]; simp
  · have e : Nat.gcd (c / Nat.gcd c u) (u / Nat.gcd c u) = 1 := by
      rw [Nat.gcd_div (Nat.gcd_dvd_left c u) (Nat.gcd_dvd_right c u), Nat.div_self h]
    rw [e]; simp
theorem low_mod (c u : Nat) : c % (c / Nat.gcd c u) = 0 ∧ u % (u / Nat.gcd c u) = 0 :=
  ⟨Nat.mod_eq_zero_of_dvd (Nat.div_dvd_of_dvd (Nat.gcd_dvd_left c u)), Nat.mod_eq_zero_of_dvd (Nat.div_dvd_of_dvd (Nat.gcd_dvd_right c u))⟩
theorem low_pos {c u : Nat} (h : 0 < c) : 0 < c / Nat.gcd c u := Nat.div_pos (Nat.le_of_dvd h (Nat.gcd_dvd_left c u)) (Nat.gcd_pos_of_pos_left u h)
theorem low_pos' {c u : Nat} (h : 0 < u) : 0 < u / Nat.gcd c u := Nat.div_pos (Nat.le_of_dvd h (Nat.gcd_dvd_right c u)) (Nat.gcd_pos_of_pos_right c h)
set_option maxRecDepth 100000 in
set_option maxHeartbeats 4000000 in
theorem lawQOrders (c u d v : Nat) (hc : c < 18446744073709551616) (hu : u < 18446744073709551616) (hd : d < 18446744073709551616) (hv : v < 18446744073709551616) (w : World) :
    Calls Try.prog 8 #[rateV c u, rateV d v] w fun e w' => e = .returned (.bool true) ∧ Below w.heap.size w w' := by
  have hp1 := mul_lt128 hc hv
  have hp2 := mul_lt128 hd hu
  have P1 := fun wx => hid (product_walk c v hc hv wx)
  have P2 := fun wx => hid (product_walk d u hd hu wx)
  have C1 := fun wx => hid (rcmp_walk c u d v hc hu hd hv wx)
  have C2 := fun wx => hid (rcmp_walk d v c u hd hv hc hu wx)
  have E0 : rcmp 1 2 1 1 = -1 := by decide
  obtain ⟨hr1, hr2⟩ := rcmp_bd c u d v
  rw [rcmp_neg c u d v] at C2
  simp only [rcmp_cmpI c u d v] at C1 C2 hr1 hr2
  generalize c * v = X at *
  generalize d * u = Y at *
  have kr : IntKind.i64.wrap (cmpI X Y) = cmpI X Y := by
    generalize cmpI X Y = r at *
    simp [IntKind.wrap, IntKind.signed, IntKind.bits]; omega
  have CL := fun wx => hid (low_walk c u hc hu wx)
  obtain ⟨ll1, ll2⟩ := low_low c u
  obtain ⟨m1, m2⟩ := low_mod c u
  have p1 := @low_pos c u
  have p2 := @low_pos' c u
  have q1 := Nat.div_le_self c (Nat.gcd c u)
  have q2 := Nat.div_le_self u (Nat.gcd c u)
  have C3 := fun wx => hid (rcmp_walk c u _ _ hc hu (Nat.lt_of_le_of_lt q1 hc) (Nat.lt_of_le_of_lt q2 hu) wx)
  have C4 := fun wx => hid (low_walk _ _ (Nat.lt_of_le_of_lt q1 hc) (Nat.lt_of_le_of_lt q2 hu) wx)
  simp only [low_rate, ll1, ll2] at C3 C4
  clear ll1 ll2
  generalize c / Nat.gcd c u = lc at *
  generalize u / Nat.gcd c u = lu at *
  have tA : decide (c < lc) = false := by rw [decide_eq_false_iff_not]; omega
  have tB : decide (u < lu) = false := by rw [decide_eq_false_iff_not]; omega
  have B0 := ((Below.refl w.heap.size w).alloc (Nat.le_refl _) (.cells #[.int .u64 (c : Int), .int .u64 (u : Int)] 24)).alloc (by simp) (.cells #[.int .u64 (d : Int), .int .u64 (v : Int)] 24)
  have X0 := hid ((Bx2.new w c u 24).below ((Below.refl _ _).alloc (Nat.le_refl _) (.cells #[.int .u64 (d : Int), .int .u64 (v : Int)] 24)))
  have Y0 := Bx2.new (w.alloc (.cells #[.int .u64 (c : Int), .int .u64 (u : Int)] 24)) d v 24
  rw [show (w.alloc (.cells #[.int .u64 (c : Int), .int .u64 (u : Int)] 24)).heap.size = w.heap.size + 1 by simp] at Y0
  replace Y0 := hid Y0
  go_enter Try.func8, Try.ntmps8
  go_wp2_with fail
  refine (head_walk _).mono ?_
  rintro e w1 ⟨rfl, b1⟩
  have X1 := hid (X0.out.below b1)
  have Y1 := hid (Y0.out.below b1)
  have B1 := bstep B0 b1
  clear X0 Y0 B0 b1
  obtain ⟨x0, x1⟩ := X1.out
  obtain ⟨y0, y1⟩ := Y1.out
  go_wp2_with fail
  refine (rcmp_walk 1 2 1 1 (by decide) (by decide) (by decide) (by decide) _).mono ?_
  rintro e w2 ⟨rfl, b2⟩
  rw [E0]
  have X2 := hid (X1.out.below b2)
  have Y2 := hid (Y1.out.below b2)
  have B2 := bstep B1 b2
  clear X1 Y1 B1 b2 x0 x1 y0 y1
  obtain ⟨x0, x1⟩ := X2.out
  obtain ⟨y0, y1⟩ := Y2.out
  have BW := B2
  clear x0 x1 y0 y1
  obtain ⟨x0, x1, _⟩ := X2.out
  obtain ⟨y0, y1, _⟩ := Y2.out
  clear B2 X2 Y2
  go_wp2_with fail
  go_region_held3 (fun w' => w'.cell? ⟨w.heap.size, 0, none⟩ = some (.int .u64 (c : Int)) ∧ w'.cell? ⟨w.heap.size, 1, none⟩ = some (.int .u64 (u : Int)) ∧ w'.cell? ⟨w.heap.size + 1, 0, none⟩ = some (.int .u64 (d : Int)) ∧ w'.cell? ⟨w.heap.size + 1, 1, none⟩ = some (.int .u64 (v : Int)))
    (exact ⟨x0, x1, y0, y1⟩)
    (first
      | (go_at_call 18; (with_reducible refine (C1 _).out.mono ?_); rintro e wA ⟨rfl, bA⟩; replace x0 := cell_below bA x0; replace x1 := cell_below bA x1; replace y0 := cell_below bA y0; replace y1 := cell_below bA y1; (first | replace BW := bstep BW bA | replace BW := bstep BW.drew bA))
      | (go_at_call 18; (with_reducible refine (C2 _).out.mono ?_); rintro e wA ⟨rfl, bA⟩; replace x0 := cell_below bA x0; replace x1 := cell_below bA x1; replace y0 := cell_below bA y0; replace y1 := cell_below bA y1; (first | replace BW := bstep BW bA | replace BW := bstep BW.drew bA))
      | (go_at_call 11; (with_reducible refine (P1 _).out.mono ?_); rintro e wB ⟨v1, z1, rfl, d1, ⟨a1, c1, rfl, s1⟩, bB⟩; replace x0 := cell_below bB x0; replace x1 := cell_below bB x1; replace y0 := cell_below bB y0; replace y1 := cell_below bB y1; (first | replace BW := bstep BW bB | replace BW := bstep BW.drew bB))
      | (go_at_call 11; (with_reducible refine (P2 _).out.mono ?_); rintro e wC ⟨v2, z2, rfl, d2, ⟨a2, c2, rfl, s2⟩, bC⟩; replace x0 := cell_below bC x0; replace x1 := cell_below bC x1; replace y0 := cell_below bC y0; replace y1 := cell_below bC y1; (first | replace BW := bstep BW bC | replace BW := bstep BW.drew bC))
      | (go_at_call 10; (refine (cmp_prod hp1 hp2 s1 d1 bC s2 d2).mono ?_); rintro e wD ⟨rfl, bD⟩; replace x0 := cell_below bD x0; replace x1 := cell_below bD x1; replace y0 := cell_below bD y0; replace y1 := cell_below bD y1; (first | replace BW := bstep BW bD | replace BW := bstep BW.drew bD)))
  clear s1 s2 d1 d2 bB bC bD y0 y1 C1 C2 P1 P2 hp1 hp2 hr1 hr2 E0
  go_wp2_with fail
  clear kr
  refine (CL _).out.mono ?_
  rintro e wE ⟨rfl, bE⟩
  replace x0 := cell_below bE x0
  replace x1 := cell_below bE x1
  replace BW := bstep BW bE
  have bL := (Below.refl wE.heap.size wE).alloc (Nat.le_refl _) (.cells #[.int .u64 (lc : Int), .int .u64 (lu : Int)] 24)
  obtain ⟨l0, l1, _⟩ := Bx2.new wE lc lu 24
  replace x0 := cell_below bL x0
  replace x1 := cell_below bL x1
  replace BW := bstep BW bL
  clear bL bE CL
  go_wp2_with fail
  generalize wE.alloc (.cells #[.int .u64 (lc : Int), .int .u64 (lu : Int)] 24) = wF at *
  generalize wE.heap.size = bl at *
  go_region_held3 (fun w' => w'.cell? ⟨w.heap.size, 0, none⟩ = some (.int .u64 (c : Int)) ∧ w'.cell? ⟨w.heap.size, 1, none⟩ = some (.int .u64 (u : Int)) ∧ w'.cell? ⟨bl, 0, none⟩ = some (.int .u64 (lc : Int)) ∧ w'.cell? ⟨bl, 1, none⟩ = some (.int .u64 (lu : Int)))
    (exact ⟨x0, x1, l0, l1⟩)
    (first
      | (go_at_call 18; (with_reducible refine (C3 _).out.mono ?_); rintro e wG ⟨rfl, bG⟩; replace x0 := cell_below bG x0; replace x1 := cell_below bG x1; replace l0 := cell_below bG l0; replace l1 := cell_below bG l1; (first | replace BW := bstep BW bG | replace BW := bstep BW.drew bG))
      | (go_at_call 19; (with_reducible refine (C4 _).out.mono ?_); rintro e wH ⟨rfl, bH⟩; replace x0 := cell_below bH x0; replace x1 := cell_below bH x1; replace l0 := cell_below bH l0; replace l1 := cell_below bH l1; (first | replace BW := bstep BW bH | replace BW := bstep BW.drew bH)))
  clear C3 C4
  clear tA tB
  have HB := hid BW
  clear BW
  by_cases hc0 : c = 0
  · obtain rfl : lc = 0 := by omega
    have tc : ((c : Int) == 0) = true := by simp; omega
    have tc2 : decide (0 < c) = false := by rw [decide_eq_false_iff_not]; omega
    by_cases hu0 : u = 0
    · have tu : ((u : Int) == 0) = true := by simp; omega
      clear p1 p2 q1 q2 m1 m2 hc0 hu0
      go_wp2
      go_ret
      exact ⟨rfl, HB.out⟩
    · have tu : ((u : Int) == 0) = false := by simp; omega
      have hu1 : 0 < u := by omega
      have hl1 : 1 ≤ lu := p2 hu1
      have hl0 : 0 < lu := hl1
      have md : (u : Int).tmod (lu : Int) = 0 := by rw [tmod_nat, m2]; rfl
      have md2 : (u : Int) % (lu : Int) = 0 := by rw [← Int.natCast_emod, m2]; rfl
      have md3 : (c : Int) = 0 := by omega
      have mx : max (lu : Int) 1 = (lu : Int) := by omega
      clear p1 p2 q1 q2 m1 m2 hu0 hc0
      go_wp2
      go_ret
      exact ⟨rfl, HB.out⟩
  · have tc : ((c : Int) == 0) = false := by simp; omega
    have hc1 : 0 < c := by omega
    have hk1 : 1 ≤ lc := p1 hc1
    have hk0 : 0 < lc := hk1
    have mc : (c : Int).tmod (lc : Int) = 0 := by rw [tmod_nat, m1]; rfl
    have mc2 : (c : Int) % (lc : Int) = 0 := by rw [← Int.natCast_emod, m1]; rfl
    have mx1 : max (lc : Int) 1 = (lc : Int) := by omega
    by_cases hu0 : u = 0
    · obtain rfl : lu = 0 := by omega
      have tu : ((u : Int) == 0) = true := by simp; omega
      have tu2 : decide (0 < u) = false := by rw [decide_eq_false_iff_not]; omega
      have md3 : (u : Int) = 0 := by omega
      clear p1 p2 q1 q2 m1 m2 hu0 hc0
      go_wp2
      go_ret
      exact ⟨rfl, HB.out⟩
    · have tu : ((u : Int) == 0) = false := by simp; omega
      have hu1 : 0 < u := by omega
      have hl1 : 1 ≤ lu := p2 hu1
      have hl0 : 0 < lu := hl1
      have md : (u : Int).tmod (lu : Int) = 0 := by rw [tmod_nat, m2]; rfl
      have md2 : (u : Int) % (lu : Int) = 0 := by rw [← Int.natCast_emod, m2]; rfl
      have mx : max (lu : Int) 1 = (lu : Int) := by omega
      clear p1 p2 q1 q2 m1 m2 hu0 hc0
      go_wp2
      go_ret
      exact ⟨rfl, HB.out⟩
end Go.Proofs.Ytjnbikdapjfcgaa
