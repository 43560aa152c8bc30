/- The law's big, wrong; bytes.HasPrefix. -/
import Derived.Test.YtnophelfpoldfaaGreatDoorSth
import Derived.Test.YtnophelfpoldfaaGreatDoorCmp
namespace Go.Proofs.YtnophelfpoldfaaGreatDoor
open Go.RowKit

def BigR (w : World) (P : Prop) (e : Ending) (w' : World) : Prop := ∃ b : Bool, e = .returned (.bool b) ∧ (b = false → P) ∧ Below w.heap.size w w'
set_option maxRecDepth 100000 in
set_option maxHeartbeats 4000000 in
theorem lbig_walk (a : Option Addr) (N c : Nat) (ls : List LC) (w : World) (h : Chs w a N c ls) : Calls Tryz.prog 18 #[.slice a N c] w (BigR w (N ≤ 6 ∧ ∀ l ∈ ls, l.k.length ≤ 200 ∧ l.v.length ≤ 200)) := by
  have HC := hid h
  have LL := hid h.2.1
  clear h
  by_cases h6 : 6 < N
  case pos =>
    have t1 : decide (6 < N) = true := decide_eq_true h6
    have t2 : decide ((6 : Int) < (N : Int)) = true := decide_eq_true (by omega)
    clear h6
    go_enter Tryz.func18, Tryz.ntmps18
    go_wp2_with (fail)
    go_ret
    exact ⟨true, rfl, (fun e => nomatch e), Below.refl _ _⟩
  have t1 : decide (6 < N) = false := decide_eq_false h6
  have t2 : decide ((6 : Int) < (N : Int)) = false := decide_eq_false (by omega)
  have N6 := hid (show N ≤ 6 by omega)
  clear h6
  go_enter Tryz.func18, Tryz.ntmps18
  go_wp2_with (fail)
  go_loopw [10] (fun x10 wr => ∃ j : Nat, j ≤ N ∧ x10 = .int .i64 (j : Int) ∧ (∀ l ∈ ls.take j, l.k.length ≤ 200 ∧ l.v.length ≤ 200) ∧ Below w.heap.size w wr) (fun x10 _ => N - (intOf x10).toNat)
  case atStart => exact ⟨0, Nat.zero_le _, rfl, by simp, Below.refl _ _⟩
  case round =>
    obtain ⟨j, hj, rfl, hs, hb⟩ := hrel
    have BR := hid hb
    have SR := hid hs
    clear hb hs
    by_cases hlt : j < N
    case neg =>
      obtain rfl : j = N := by omega
      have t3 : decide (j < j) = false := decide_eq_false (by omega)
      have t4 : decide ((j : Int) < (j : Int)) = false := decide_eq_false (by omega)
      have TA := hid (show ls.take j = ls from List.take_of_length_le (by rw [LL.out]; exact Nat.le_refl _))
      rw [TA.out] at SR
      clear hj hlt
      go_wp2_with (fail)
      go_ret
      exact ⟨false, rfl, fun _ => ⟨N6.out, SR.out⟩, BR.out⟩
    have t3 : decide (j < N) = true := decide_eq_true hlt
    have t4 : decide ((j : Int) < (N : Int)) = true := decide_eq_true (by omega)
    obtain ⟨l, hl⟩ := get_some LL.out hlt
    obtain ⟨b, off, rfl, c0, c1, c2, _⟩ := (HC.out.below BR.out).cells hl
    have TK := hid (show ls.take (j + 1) = ls.take j ++ [l] from take_succ_some hl)
    obtain ⟨j1, hj1⟩ : ∃ j1, j1 = j + 1 := ⟨_, rfl⟩
    have r4 : IntKind.i64.wrap ((j : Int) + 1) = (j1 : Int) := by have := N6.out; rw [IntKind.wrap_i64]; omega
    have J1 := hid hj1
    have LT := hid hlt
    obtain ⟨ka, kc, k, va, vc, v, g⟩ := l
    obtain ⟨kl, hkl⟩ : ∃ kl, kl = k.length := ⟨_, rfl⟩
    obtain ⟨vl, hvl⟩ : ∃ vl, vl = v.length := ⟨_, rfl⟩
    have c0' : wr.cell? ⟨b, off + j * 3, none⟩ = some (.slice ka kl kc) := by rw [hkl]; exact c0
    have c1' : wr.cell? ⟨b, off + j * 3 + 1, none⟩ = some (.slice va vl vc) := by rw [hvl]; exact c1
    have c2' : wr.cell? ⟨b, off + j * 3 + 2, none⟩ = some (.bool g) := c2
    have KE := hid hkl
    have VE := hid hvl
    clear c0 c1 c2 hl hj hlt hj1 hkl hvl
    go_upto_region 6 with (fail)
    refine newW ?_
    intro wa HA BA
    have a0 : wa.cell? ⟨wr.heap.size, 0, none⟩ = some (.slice ka kl kc) := gen_cell (L := [.slice ka kl kc, .slice va vl vc, .bool g]) (j := 0) (row_range HA.out) rfl
    have a1 : wa.cell? ⟨wr.heap.size, 1, none⟩ = some (.slice va vl vc) := gen_cell (L := [.slice ka kl kc, .slice va vl vc, .bool g]) (j := 1) (row_range HA.out) rfl
    have B2 := hid (BR.out.trans (BA.out.mono BR.out.size))
    by_cases h1 : 200 < kl
    case pos =>
      have q1 : decide (200 < kl) = true := decide_eq_true h1
      have q2 : decide ((200 : Int) < (kl : Int)) = true := decide_eq_true (by omega)
      clear h1
      go_wp2_with (fail)
      go_ret
      exact ⟨true, rfl, (fun e => nomatch e), B2.out⟩
    have q1 : decide (200 < kl) = false := decide_eq_false h1
    have q2 : decide ((200 : Int) < (kl : Int)) = false := decide_eq_false (by omega)
    by_cases h2 : 200 < vl
    case pos =>
      have q3 : decide (200 < vl) = true := decide_eq_true h2
      have q4 : decide ((200 : Int) < (vl : Int)) = true := decide_eq_true (by omega)
      clear h1 h2
      go_wp2_with (fail)
      go_ret
      exact ⟨true, rfl, (fun e => nomatch e), B2.out⟩
    have q3 : decide (200 < vl) = false := decide_eq_false h2
    have q4 : decide ((200 : Int) < (vl : Int)) = false := decide_eq_false (by omega)
    have OK := hid (show kl ≤ 200 ∧ vl ≤ 200 by omega)
    clear h1 h2
    go_wp2_with (fail)
    go_roundw
    case rel =>
      refine ⟨j1, by have := J1.out; have := LT.out; omega, rfl, fun x hx => ?_, B2.out⟩
      rw [J1.out, TK.out, List.mem_append] at hx
      rcases hx with hx | hx
      · exact SR.out x hx
      · simp only [List.mem_cons, List.not_mem_nil, or_false] at hx
        subst hx
        exact ⟨by show k.length ≤ 200; rw [← KE.out]; exact OK.out.1, by show v.length ≤ 200; rw [← VE.out]; exact OK.out.2⟩
    case measure => simp [intOf]; have := J1.out; have := LT.out; omega
set_option maxRecDepth 100000 in
set_option maxHeartbeats 4000000 in
theorem wrong_walk (a : Option Addr) (N c : Nat) (ls : List LC) (w : World) (h : Chs w a N c ls) (hN : N ≤ 1000000) : Calls Tryz.prog 19 #[.slice a N c] w (BigR w (∀ l ∈ ls, 0 < l.k.length ∧ l.k.length ≤ 128 ∧ (l.g = true → l.v = []))) := by
  have HC := hid h
  have LL := hid h.2.1
  have HN := hid hN
  clear h hN
  go_enter Tryz.func19, Tryz.ntmps19
  go_wp2_with (fail)
  go_loopw [7] (fun x7 wr => ∃ j : Nat, j ≤ N ∧ x7 = .int .i64 (j : Int) ∧ (∀ l ∈ ls.take j, 0 < l.k.length ∧ l.k.length ≤ 128 ∧ (l.g = true → l.v = [])) ∧ Below w.heap.size w wr) (fun x7 _ => N - (intOf x7).toNat)
  case atStart => exact ⟨0, Nat.zero_le _, rfl, by simp, Below.refl _ _⟩
  case round =>
    obtain ⟨j, hj, rfl, hs, hb⟩ := hrel
    have BR := hid hb
    have SR := hid hs
    clear hb hs
    by_cases hlt : j < N
    case neg =>
      obtain rfl : j = N := by omega
      have t3 : decide (j < j) = false := decide_eq_false (by omega)
      have t4 : decide ((j : Int) < (j : Int)) = false := decide_eq_false (by omega)
      have TA := hid (show ls.take j = ls from List.take_of_length_le (by rw [LL.out]; exact Nat.le_refl _))
      rw [TA.out] at SR
      clear hj hlt
      go_wp2_with (fail)
      go_ret
      exact ⟨false, rfl, fun _ => SR.out, BR.out⟩
    have t3 : decide (j < N) = true := decide_eq_true hlt
    have t4 : decide ((j : Int) < (N : Int)) = true := decide_eq_true (by omega)
    obtain ⟨l, hl⟩ := get_some LL.out hlt
    obtain ⟨b, off, rfl, c0, c1, c2, _⟩ := (HC.out.below BR.out).cells hl
    have TK := hid (show ls.take (j + 1) = ls.take j ++ [l] from take_succ_some hl)
    obtain ⟨j1, hj1⟩ : ∃ j1, j1 = j + 1 := ⟨_, rfl⟩
    have r4 : IntKind.i64.wrap ((j : Int) + 1) = (j1 : Int) := by have := HN.out; rw [IntKind.wrap_i64]; omega
    have J1 := hid hj1
    have LT := hid hlt
    obtain ⟨ka, kc, k, va, vc, v, g⟩ := l
    obtain ⟨kl, hkl⟩ : ∃ kl, kl = k.length := ⟨_, rfl⟩
    obtain ⟨vl, hvl⟩ : ∃ vl, vl = v.length := ⟨_, rfl⟩
    have c0' : wr.cell? ⟨b, off + j * 3, none⟩ = some (.slice ka kl kc) := by rw [hkl]; exact c0
    have c1' : wr.cell? ⟨b, off + j * 3 + 1, none⟩ = some (.slice va vl vc) := by rw [hvl]; exact c1
    have c2' : wr.cell? ⟨b, off + j * 3 + 2, none⟩ = some (.bool g) := c2
    have KE := hid hkl
    have VE := hid hvl
    clear c0 c1 c2 hl hj hlt hj1 hkl hvl
    go_upto_region 4 with (fail)
    refine newW ?_
    intro wa HA BA
    have a0 : wa.cell? ⟨wr.heap.size, 0, none⟩ = some (.slice ka kl kc) := gen_cell (L := [.slice ka kl kc, .slice va vl vc, .bool g]) (j := 0) (row_range HA.out) rfl
    have a1 : wa.cell? ⟨wr.heap.size, 1, none⟩ = some (.slice va vl vc) := gen_cell (L := [.slice ka kl kc, .slice va vl vc, .bool g]) (j := 1) (row_range HA.out) rfl
    have a2 : wa.cell? ⟨wr.heap.size, 2, none⟩ = some (.bool g) := gen_cell (L := [.slice ka kl kc, .slice va vl vc, .bool g]) (j := 2) (row_range HA.out) rfl
    have B2 := hid (BR.out.trans (BA.out.mono BR.out.size))
    by_cases h0 : kl = 0
    case pos =>
      subst h0
      go_wp2_with (fail)
      go_ret
      exact ⟨true, rfl, (fun e => nomatch e), B2.out⟩
    have q0 : ¬ (kl : Int) = 0 := by omega
    have q0' : ((kl : Int) == 0) = false := beq_eq_false_iff_ne.2 q0
    by_cases h1 : 128 < kl
    case pos =>
      have q1 : decide (128 < kl) = true := decide_eq_true h1
      have q2 : decide ((128 : Int) < (kl : Int)) = true := decide_eq_true (by omega)
      clear h1
      go_wp2_with (fail)
      go_ret
      exact ⟨true, rfl, (fun e => nomatch e), B2.out⟩
    have q1 : decide (128 < kl) = false := decide_eq_false h1
    have q2 : decide ((128 : Int) < (kl : Int)) = false := decide_eq_false (by omega)
    have OK := hid (show 0 < kl ∧ kl ≤ 128 by omega)
    clear h1
    cases g with
    | true =>
      by_cases h2 : 0 < vl
      case pos =>
        have q3 : decide (0 < vl) = true := decide_eq_true h2
        have q4 : decide ((0 : Int) < (vl : Int)) = true := decide_eq_true (by omega)
        clear h2 h0
        go_wp2_with (fail)
        go_ret
        exact ⟨true, rfl, (fun e => nomatch e), B2.out⟩
      obtain rfl : vl = 0 := by omega
      clear h2
      go_wp2_with (fail)
      go_roundw
      case rel =>
        refine ⟨j1, by have := J1.out; have := LT.out; omega, rfl, fun x hx => ?_, B2.out⟩
        rw [J1.out, TK.out, List.mem_append] at hx
        rcases hx with hx | hx
        · exact SR.out x hx
        · simp only [List.mem_cons, List.not_mem_nil, or_false] at hx
          subst hx
          exact ⟨by show 0 < k.length; rw [← KE.out]; exact OK.out.1, by show k.length ≤ 128; rw [← KE.out]; exact OK.out.2, fun _ => List.eq_nil_of_length_eq_zero VE.out.symm⟩
      case measure => simp [intOf]; have := J1.out; have := LT.out; omega
    | false =>
      go_wp2_with (fail)
      go_roundw
      case rel =>
        refine ⟨j1, by have := J1.out; have := LT.out; omega, rfl, fun x hx => ?_, B2.out⟩
        rw [J1.out, TK.out, List.mem_append] at hx
        rcases hx with hx | hx
        · exact SR.out x hx
        · simp only [List.mem_cons, List.not_mem_nil, or_false] at hx
          subst hx
          exact ⟨by show 0 < k.length; rw [← KE.out]; exact OK.out.1, by show k.length ≤ 128; rw [← KE.out]; exact OK.out.2, fun e => nomatch e⟩
      case measure => simp [intOf]; have := J1.out; have := LT.out; omega
theorem bequal_walk (a a' : Option Addr) (n cap m cap' : Nat) (xs ys : List Nat) (hx : ∀ d ∈ xs, d < 256) (hy : ∀ d ∈ ys, d < 256) (w : World) (h : Sl .u8 w a n cap xs) (h' : Sl .u8 w a' m cap' ys) :
    Calls Tryz.prog 38 #[.slice a n cap, .slice a' m cap'] w fun e w' => e = .returned (.bool (decide (xs = ys))) ∧ w = w' := by
  have c1 := conv_bytes h Tryz.underlying22 Tryz.underlying5 Tryz.underlying9
  have c2 := conv_bytes h' Tryz.underlying22 Tryz.underlying5 Tryz.underlying9
  have e := hid (bytesOf_eq hx hy)
  clear h h'
  go_enter Tryz.func38, Tryz.ntmps38
  go_wp2
  go_ret
  exact ⟨by rw [← e.out]; rfl, rfl⟩
theorem take_pre (xs ys : List Nat) : decide (xs.take ys.length = ys) = ys.isPrefixOf xs := by
  rw [Bool.eq_iff_iff, decide_eq_true_eq, List.isPrefixOf_iff_prefix]
  constructor
  · intro e
    rw [← e]
    exact List.take_prefix _ _
  · intro e
    exact (List.prefix_iff_eq_take.1 e).symm
set_option maxRecDepth 100000 in
theorem bpre_walk (a a' : Option Addr) (n cap m cap' : Nat) (xs ys : List Nat) (hx : ∀ d ∈ xs, d < 256) (hy : ∀ d ∈ ys, d < 256) (w : World) (h : Sl .u8 w a n cap xs) (h' : Sl .u8 w a' m cap' ys) :
    Calls Tryz.prog 21 #[.slice a n cap, .slice a' m cap'] w fun e w' => e = .returned (.bool (ys.isPrefixOf xs)) ∧ w = w' := by
  have l1 := h.len
  have l2 := h'.len
  by_cases hm : m ≤ n
  · have t1 : decide (m ≤ n) = true := decide_eq_true hm
    have t2 : decide ((m : Int) ≤ (n : Int)) = true := decide_eq_true (by omega)
    have BE := hid (bequal_walk a a' m cap m cap' (xs.take m) ys (fun d hd => hx d (List.mem_of_mem_take hd)) hy w (h.take hm) h')
    rw [show decide (xs.take m = ys) = ys.isPrefixOf xs by rw [← l2]; exact take_pre xs ys] at BE
    have c1 := h.2.1
    have hc : m ≤ cap := by omega
    clear h h' l1 l2
    generalize ys.isPrefixOf xs = bb at BE ⊢
    go_enter Tryz.func21, Tryz.ntmps21
    go_wp2_with (fail)
    refine BE.out.mono ?_
    rintro e w1 ⟨rfl, rfl⟩
    go_wp2_with (fail)
    go_ret
    exact ⟨rfl, rfl⟩
  · have t1 : decide (m ≤ n) = false := decide_eq_false hm
    have t2 : decide ((m : Int) ≤ (n : Int)) = false := decide_eq_false (by omega)
    have e : ys.isPrefixOf xs = false := by
      rw [Bool.eq_false_iff]
      intro hc
      have := (List.isPrefixOf_iff_prefix.1 hc).length_le
      omega
    rw [e]
    clear h h' l1 l2 hm
    go_enter Tryz.func21, Tryz.ntmps21
    go_wp2_with (fail)
    go_ret
    exact ⟨rfl, rfl⟩
end Go.Proofs.YtnophelfpoldfaaGreatDoor
