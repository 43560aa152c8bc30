/- Contract of quote's Low. -/
import Derived.Test.YtjnbikdapjfcgaaQuote
import Derived.Deep.MidRow
namespace Go.Proofs.Ytjnbikdapjfcgaa
open Go.RowKit

/-- one result, a struct or an array in a variable -/
theorem results_cell1 {P : Program} {fn : Func} {p : Tmp} {ty : TypeId} (h : fn.results = #[.cell p ty]) (tmps : Array Value) (w : World) (b o : Nat) (cs : List Value) (d : TypeDesc)
    (hp : tmps.getD p undef = .pointer (some ⟨b, o, none⟩)) (hc : w.rangeAt b o cs) (hu : P.underlying ty = some d) (hd : d.isRow = true) (hi : (P.info? ty).map (·.size) = some cs.length) :
    (results fn tmps).run P w = .ok (.agg cs.toArray) w := by
  have hp' : tmps[p]?.getD undef = .pointer (some ⟨b, o, none⟩) := by simpa using hp
  simp [results, h, hp', asAddr, run_loadVar_mid w b o ty cs d hc hu hd hi]
def AggB (w : World) (c u : Nat) (e : Ending) (w' : World) : Prop := e = .returned (rateV c u) ∧ Below w.heap.size w w'
theorem Bx2.range {w : World} {b c u : Nat} (h : Bx2 w b c u) : w.rangeAt b 0 [.int .u64 (c : Int), .int .u64 (u : Int)] := by
  intro j v hv
  match j, hv with
  | 0, hv => simp at hv; subst hv; exact h.1
  | 1, hv => simp at hv; subst hv; exact h.2.1
theorem Bx2.set {w : World} {b c u c' u' : Nat} (h : Bx2 w b c u) : Bx2 ((w.setCell ⟨b, 0, none⟩ (.int .u64 (c' : Int))).setCell ⟨b, 1, none⟩ (.int .u64 (u' : Int))) b c' u' :=
  ⟨by rw [World.cell?_setCell_other _ _ _ _ (by simp), World.cell?_setCell_same _ _ _ h.1], by rw [World.cell?_setCell_same (u := .int .u64 (u : Int)) _ _ _ (by rw [World.cell?_setCell_other _ _ _ _ (by simp)]; exact h.2.1)], fun j => by simpa using h.2.2 j⟩
theorem Bx2.dN {w : World} {b c u : Nat} (h : Bx2 w b c u) (n : Nat) : Bx2 (w.drewN n) b c u := h
theorem wrap_nat {a : Nat} (h : a < 18446744073709551616) : IntKind.u64.wrap (a : Int) = (a : Int) := by
  simp [IntKind.wrap, IntKind.signed, IntKind.bits]; omega
theorem infoRate : (Try.prog.info? 24).map (·.size) = some 2 := by kernel_rfl
theorem rem_nat {a b : Nat} (ha : a < 18446744073709551616) (_hb : 0 < b) : IntKind.u64.wrap ((a : Int).tmod (b : Int)) = ((a % b : Nat) : Int) := by
  have h1 : (a : Int).tmod (b : Int) = ((a % b : Nat) : Int) := by rw [Int.tmod_eq_emod_of_nonneg (by omega)]; rfl
  rw [h1]
  have h2 : a % b < 18446744073709551616 := Nat.lt_of_le_of_lt (Nat.mod_le _ _) ha
  generalize a % b = r at *
  simp [IntKind.wrap, IntKind.signed, IntKind.bits]
  omega
theorem tmod_nat (a b : Nat) : (a : Int).tmod (b : Int) = ((a % b : Nat) : Int) := by rw [Int.tmod_eq_emod_of_nonneg (by omega)]; rfl
set_option maxHeartbeats 1000000 in
theorem low_walk (c u : Nat) (hc : c < 18446744073709551616) (hu : u < 18446744073709551616) (w : World) :
    Calls Try.prog 19 #[rateV c u] w (AggB w (c / Nat.gcd c u) (u / Nat.gcd c u)) := by
  have B0 := ((Below.refl w.heap.size w).alloc (Nat.le_refl _) (.cells #[.int .u64 (c : Int), .int .u64 (u : Int)] 24)).alloc (by simp) (.cells #[.int .u64 (0 : Nat), .int .u64 (0 : Nat)] 24)
  have X0 := (Bx2.new w c u 24).below ((Below.refl _ _).alloc (Nat.le_refl _) (.cells #[.int .u64 (0 : Nat), .int .u64 (0 : Nat)] 24))
  have Y0 := Bx2.new (w.alloc (.cells #[.int .u64 (c : Int), .int .u64 (u : Int)] 24)) 0 0 24
  rw [show (w.alloc (.cells #[.int .u64 (c : Int), .int .u64 (u : Int)] 24)).heap.size = w.heap.size + 1 by simp] at Y0
  have HX := hid (And.intro B0 (And.intro X0 Y0))
  clear B0 X0 Y0
  go_enter Try.func19, Try.ntmps19
  go_wp2
  generalize (w.alloc (.cells #[.int .u64 (c : Int), .int .u64 (u : Int)] 24)).alloc (.cells #[.int .u64 (0 : Nat), .int .u64 (0 : Nat)] 24) = W at *
  obtain ⟨B0, ⟨x0, x1, _⟩, ⟨y0, y1, y2⟩⟩ := HX.out
  go_quiet (fail)
  go_wp2
  go_loopw [3, 4] (fun a0 b0 wr => ∃ a b : Nat, a0 = .int .u64 a ∧ b0 = .int .u64 b ∧ a < 18446744073709551616 ∧ b < 18446744073709551616 ∧ Hid (Nat.gcd a b = Nat.gcd c u) ∧ Qt W wr) (fun _ b0 _ => (intOf b0).toNat)
  case atStart => exact ⟨c, u, rfl, rfl, hc, hu, hid rfl, ⟨_, rfl⟩⟩
  case round =>
    obtain ⟨a, b, rfl, rfl, ha, hb, hg, ⟨q, rfl⟩⟩ := hrel
    by_cases h0 : 0 < b
    · have hw := rem_nat ha h0
      have hm := tmod_nat a b
      have hml : a % b < b := Nat.mod_lt _ h0
      have HG := hid (show Nat.gcd b (a % b) = Nat.gcd c u by rw [← hg.out, Nat.gcd_comm b, ← Nat.gcd_rec, Nat.gcd_comm])
      clear hg
      go_wp2_with fail
      go_quiet (fail)
      go_wp2
      go_roundw
      case rel => exact ⟨b, a % b, rfl, rfl, hb, by omega, HG, ⟨_, World.drewN_drewN _ _ _⟩⟩
      case measure => simp [intOf]; omega
    · obtain rfl : b = 0 := by omega
      have hg' := hg.out
      rw [Nat.gcd_zero_right] at hg'
      subst hg'
      by_cases hz : Nat.gcd c u = 0
      · obtain ⟨rfl, rfl⟩ := Nat.gcd_eq_zero_iff.1 hz
        have YY := hid ((Bx2.dN ⟨y0, y1, y2⟩ q : Bx2 (W.drewN q) (w.heap.size + 1) 0 0).set (c' := 0) (u' := 0))
        have BB := hid (((below_drewN B0 q).setCell (p := ⟨w.heap.size + 1, 0, none⟩) (by simp) (.int .u64 ((0 : Nat) : Int))).setCell (p := ⟨w.heap.size + 1, 1, none⟩) (by simp) (.int .u64 ((0 : Nat) : Int)))
        go_wp2
        (try simp only [Exit.inBlock, Exit.then]); refine bodyPost_ret (results_cell1 rfl _ _ (w.heap.size + 1) 0 [.int .u64 ((0 : Nat) : Int), .int .u64 ((0 : Nat) : Int)] _ rfl YY.out.range Try.underlying24 rfl infoRate) rfl ?_
        exact ⟨rfl, BB.out⟩
      · have hz' : 0 < Nat.gcd c u := by omega
        have hd1 := Nat.div_le_self c (Nat.gcd c u)
        have hd2 := Nat.div_le_self u (Nat.gcd c u)
        have e1 : (c : Int).tdiv ((Nat.gcd c u : Nat) : Int) = ((c / Nat.gcd c u : Nat) : Int) := by rw [Int.tdiv_eq_ediv_of_nonneg (Int.natCast_nonneg _)]; rfl
        have e2 : (u : Int).tdiv ((Nat.gcd c u : Nat) : Int) = ((u / Nat.gcd c u : Nat) : Int) := by rw [Int.tdiv_eq_ediv_of_nonneg (Int.natCast_nonneg _)]; rfl
        clear hg
        generalize Nat.gcd c u = g at *
        have tz : ((g : Int) == 0) = false := by simp; omega
        go_wp2_with fail
        have k1 : IntKind.u64.wrap ((c : Int) / (g : Int)) = ((c / g : Nat) : Int) := wrap_nat (a := c / g) (by omega)
        have k2 : IntKind.u64.wrap ((u : Int) / (g : Int)) = ((u / g : Nat) : Int) := wrap_nat (a := u / g) (by omega)
        have YY := hid ((Bx2.dN ⟨y0, y1, y2⟩ (q + 1) : Bx2 (W.drewN (q + 1)) (w.heap.size + 1) 0 0).set (c' := c / g) (u' := u / g))
        have BB := hid (((below_drewN B0 (q + 1)).setCell (p := ⟨w.heap.size + 1, 0, none⟩) (by simp) (.int .u64 ((c / g : Nat) : Int))).setCell (p := ⟨w.heap.size + 1, 1, none⟩) (by simp) (.int .u64 ((u / g : Nat) : Int)))
        go_region
        go_wp2
        (try simp only [Exit.inBlock, Exit.then]); refine bodyPost_ret (results_cell1 rfl _ _ (w.heap.size + 1) 0 [.int .u64 ((c / g : Nat) : Int), .int .u64 ((u / g : Nat) : Int)] _ rfl YY.out.range Try.underlying24 rfl infoRate) rfl ?_
        exact ⟨rfl, BB.out⟩
end Go.Proofs.Ytjnbikdapjfcgaa
