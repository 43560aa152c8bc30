/- The walks of the statements SumsTotals, SumsOrder, SumsAdds. -/
import Derived.Test.YtfiaallnnpcbmaaLawA
namespace Go.Proofs.Ytfiaallnnpcbmaa
open Go.RowKit

theorem sum_le_len {xs : List Nat} {M : Nat} (h : ∀ d ∈ xs, d < M) : xs.sum ≤ xs.length * M := by
  induction xs with
  | nil => simp
  | cons d r ih =>
    have h1 := h d (by simp)
    have h2 := ih (fun e he => h e (by simp [he]))
    simp only [List.sum_cons, List.length_cons, Nat.add_mul, Nat.one_mul]
    omega
/-- the answer of a total, new memory beside -/
def TotB (w : World) (xs : List Nat) (e : Ending) (w' : World) : Prop := e = .returned (totV xs) ∧ Below w.heap.size w w'
theorem tot_bd {xs : List Nat} {n k : Nat} (hb : ∀ d ∈ xs, d < 18446744073709551616) (hl : xs.length = n) (hn : n ≤ 1048576) : (xs.take k).sum ≤ 19342813113834066795298816 := by
  have h1 := sum_take_le xs k
  have h2 := sum_le_len hb
  omega
theorem Dig.len11 {xs : List Nat} {x : Nat} (h : Dig xs x) (hx : x ≤ 19342813113834066795298816) : xs.length ≤ 11 := h.len_le (by omega)

set_option maxHeartbeats 1000000 in
theorem rtotal_walk (a : Option Addr) (n cap : Nat) (xs : List Nat) (hb : ∀ d ∈ xs, d < 18446744073709551616) (hn : n ≤ 1048576) (w : World) (h : Sl .u64 w a n cap xs) :
    Calls Try.prog 20 #[.slice a n cap] w (TotB w xs) := by
  have HL := hid h.len
  have TB := fun k => hid (tot_bd (k := k) hb HL.out hn)
  have S0 : SlV .i64 (w.alloc (.cells #[] 3)) (.slice (some ⟨w.heap.size, 0, none⟩) 0 0) [] := (Sl.nilS _ _ (by omega) (fun e => by cases e)).toV
  go_enter Try.func20, Try.ntmps20
  go_wp2
  go_loopw [4, 12] (fun v i0 wr => ∃ (k : Nat) (ys : List Nat), k ≤ n ∧ i0 = .int .i64 k ∧ Dig ys (xs.take k).sum ∧ SlV .i64 wr v ys ∧ Below w.heap.size w wr) (fun _ i0 _ => n - (intOf i0).toNat)
  case atStart => exact ⟨0, [], by omega, rfl, Dig.nil, S0, (Below.refl _ _).alloc (by simp) _⟩
  case round =>
    obtain ⟨k, ys, hk, rfl, D, ⟨a1, c1, rfl, s1⟩, hbw⟩ := hrel
    have tb := (TB k).out
    have l1 := D.len11 tb
    by_cases hlt : k < n
    · have hst := hid (sum_take_succ (xs := xs) (k := k) (by rw [HL.out]; exact hlt))
      obtain ⟨b, off, ha, hc⟩ := (h.below hbw).opened
      have hcx := hc k hlt
      obtain rfl := ha (by omega)
      have hd := getD_mem_lt hb (by omega) k
      generalize hdd : xs.getD k 0 = d at *
      clear hdd hc
      have HB := hid h
      clear h
      go_wp2_with fail
      refine (of_walk d hd _).mono ?_
      rintro e w2 ⟨v2, x2, rfl, d2, ⟨a2, c2, rfl, s2⟩, b2⟩
      have l2 := d2.len8 hd
      go_wp2_with fail
      refine (add_walk a1 a2 _ _ _ _ _ _ ys x2 (by omega) (by omega) _ (s1.below b2) D s2 d2).mono ?_
      rintro e w3 ⟨v3, x3, rfl, d3, s3, b3⟩
      rw [← hst.out] at d3
      go_wp2
      go_roundw
      case rel => exact ⟨k + 1, x3, by omega, by go_num, d3, s3, bstep (bstep hbw b2) b3⟩
      case measure => simp [intOf]; omega
    · obtain rfl : n = k := by omega
      have hs2 := hid (show (xs.take n).sum = xs.sum by rw [List.take_of_length_le (by rw [HL.out]; omega)])
      rw [hs2.out] at D
      by_cases hf : xs.sum < 18446744073709551616
      · have fin := hid (totV_yes hf)
        go_wp2_with fail
        refine (num_walk a1 _ _ xs.sum ys _ s1 D (by omega)).mono ?_
        rintro e w4 ⟨rfl, rfl⟩
        rw [if_pos hf, decide_eq_true hf]
        generalize xs.sum = sm at *
        go_wp2
        go_ret2
        exact ⟨by rw [fin.out]; rfl, hbw⟩
      · have fin := hid (totV_no hf)
        go_wp2_with fail
        refine (num_walk a1 _ _ xs.sum ys _ s1 D (by omega)).mono ?_
        rintro e w4 ⟨rfl, rfl⟩
        rw [if_neg hf, decide_eq_false hf]
        go_wp2
        go_ret2
        exact ⟨by rw [fin.out]; rfl, hbw⟩
theorem infoU64 : (Try.prog.info? 22).map (fun i => (i.zero, i.size, i.bytes)) = some (some (.int .u64 0), 1, 8) := by kernel_rfl
theorem tyU64s : SliceTy Try.prog 35 22 1 8 (.int .u64 0) := .mk' Try.underlying35 infoU64 rfl (by decide)
theorem tot123 : totV [1, 2, 3] = .tuple #[.int .u64 6, .int .i64 0] := rfl

set_option maxHeartbeats 1000000 in
theorem lawTotals (a : Option Addr) (n cap : Nat) (xs : List Nat) (hb : ∀ d ∈ xs, d < 18446744073709551616) (w : World) (h : Sl .u64 w a n cap xs) :
    Calls Try.prog 5 #[.slice a n cap] w fun e w' => e = .returned (.bool true) ∧ Below w.heap.size w w' := by
  have S1 := hid (sl_lit .u64 w #[.int .u64 1, .int .u64 2, .int .u64 3] 22 [1, 2, 3] rfl rfl (by decide))
  have hb1 := (Below.refl w.heap.size w).alloc (Nat.le_refl _) (.cells #[.int .u64 1, .int .u64 2, .int .u64 3] 22)
  have h2 := hid (h.below hb1)
  clear h
  by_cases hn : 100 < n
  · go_enter Try.func5, Try.ntmps5
    go_wp2_with fail
    refine (stotal_walk _ _ _ _ (by simp) _ S1.out).mono ?_
    rintro e w' ⟨rfl, rfl⟩
    rw [tot123]
    go_wp2
    go_ret
    exact ⟨rfl, hb1⟩
  · by_cases hf : xs.sum < 18446744073709551616
    all_goals
      go_enter Try.func5, Try.ntmps5
      go_wp2_with fail
      refine (stotal_walk _ _ _ _ (by simp) _ S1.out).mono ?_
      rintro e w' ⟨rfl, rfl⟩
      rw [tot123]
      go_wp2_with fail
      refine (stotal_walk _ _ _ _ hb _ h2.out).mono ?_
      rintro e w' ⟨rfl, rfl⟩
      first | rw [totV_yes hf] | rw [totV_no hf]
      go_wp2_with fail
      refine (rtotal_walk _ _ _ _ hb (by omega) _ h2.out).mono ?_
      rintro e w1 ⟨rfl, b1⟩
      first | rw [totV_yes hf] | rw [totV_no hf]
      generalize xs.sum = sm at *
      go_wp2
      go_ret
      exact ⟨rfl, hb1.trans (b1.mono hb1.size)⟩

theorem rev_step {xs : List Nat} {n j : Nat} (h : xs.length = n) (hj : j < n) : 0 :: (xs.drop j).reverse = (0 :: (xs.drop (j + 1)).reverse) ++ [xs.getD j 0] := by
  rw [drop_eq_cons (by omega)]; simp
theorem rev_len {xs : List Nat} {n j : Nat} (h : xs.length = n) (hj : j ≤ n) : (0 :: (xs.drop j).reverse).length = n - j + 1 := by simp; omega

set_option maxHeartbeats 1000000 in
theorem lawOrder (a : Option Addr) (n cap : Nat) (xs : List Nat) (hb : ∀ d ∈ xs, d < 18446744073709551616) (w : World) (h : Sl .u64 w a n cap xs) :
    Calls Try.prog 6 #[.slice a n cap] w fun e w' => e = .returned (.bool true) ∧ Below w.heap.size w w' := by
  have S1 := hid (sl_lit .u64 w #[.int .u64 1, .int .u64 2, .int .u64 3] 22 [1, 2, 3] rfl rfl (by decide))
  have hb1 := (Below.refl w.heap.size w).alloc (Nat.le_refl _) (.cells #[.int .u64 1, .int .u64 2, .int .u64 3] 22)
  by_cases hn : 60 < n
  · go_enter Try.func6, Try.ntmps6
    go_wp2_with fail
    refine (stotal_walk _ _ _ _ (by simp) _ S1.out).mono ?_
    rintro e w' ⟨rfl, rfl⟩
    rw [tot123]
    go_wp2
    go_ret
    exact ⟨rfl, hb1⟩
  · have HL := hid h.len
    have O2 := own_lit .u64 (w.alloc (.cells #[.int .u64 1, .int .u64 2, .int .u64 3] 22)) #[.int .u64 0] 22 (B := w.heap.size) (n := 1) [0] rfl rfl (by simp) (by decide)
    have b2 := hb1.alloc (by simp) (.cells #[.int .u64 0] 22)
    have O2' := hid O2; clear O2
    go_enter Try.func6, Try.ntmps6
    go_wp2_with fail
    refine (stotal_walk _ _ _ _ (by simp) _ S1.out).mono ?_
    rintro e w' ⟨rfl, rfl⟩
    rw [tot123]
    go_wp2
    go_loopw [5, 6] (fun v i0 wr => ∃ k : Nat, k ≤ n ∧ i0 = .int .i64 ((k : Int) - 1) ∧ wr.ownsRow w.heap.size 22 1 v (0 :: (xs.drop k).reverse).length (nums .u64 (0 :: (xs.drop k).reverse)) ∧ Below w.heap.size w wr) (fun _ i0 _ => (intOf i0 + 1).toNat)
    case atStart => exact ⟨n, by omega, rfl, by rw [List.drop_of_length_le (by rw [HL.out]; omega)]; simpa using O2'.out, b2⟩
    case round =>
      obtain ⟨k, hk, rfl, hown, hbw⟩ := hrel
      by_cases h0 : 0 < k
      · obtain ⟨j, rfl⟩ : ∃ j, k = j + 1 := ⟨k - 1, by omega⟩
        obtain ⟨b, off, ha, hc⟩ := (h.below hbw).opened
        have hcx := hc j (by omega)
        obtain rfl := ha (by omega)
        have hrs := hid (rev_step HL.out (show j < n by omega))
        have hrl := rev_len HL.out (show j + 1 ≤ n by omega)
        have hol : (0 :: (xs.drop (j + 1)).reverse).length < 4294967296 := by omega
        have HB := hid h
        clear h hrl
        generalize hd : xs.getD j 0 = d at *
        generalize he : 0 :: (xs.drop (j + 1)).reverse = rs at *
        clear hc hd he
        have ej : (((j + 1 : Nat) : Int) - 1) = (j : Int) := by omega
        rw [ej]
        clear ej
        go_wp2_with (at_builtin; refine wpList_push rfl _ _ 35 rfl tyU64s w.heap.size hown rfl rfl rfl rfl hol (by decide) hbw.size ?_)
        intro v' w1 hown' hb' _ _
        go_wp2
        go_roundw
        case rel => exact ⟨j, by omega, rfl, by rw [hrs.out]; exact own_snoc hown' rfl, hbw.trans hb'⟩
        case measure => simp [intOf]
      · obtain rfl : k = 0 := by omega
        have hsum : (0 :: (xs.drop 0).reverse).sum = xs.sum := by simp
        have hmem : ∀ d ∈ 0 :: (xs.drop 0).reverse, d < 18446744073709551616 := by
          intro d hd; simp at hd; rcases hd with rfl | hd
          · omega
          · exact hb d hd
        have hs := SlV.of_owns hown
        have hx := h.below hbw
        generalize hrs : 0 :: (xs.drop 0).reverse = rs at *
        clear hrs h
        obtain ⟨a2, c2, rfl, s2⟩ := hs
        have SM := hid hsum
        clear hsum
        by_cases hf : xs.sum < 18446744073709551616
        all_goals
          go_wp2_with fail
          refine (stotal_walk _ _ _ _ hb _ hx).mono ?_
          rintro e w' ⟨rfl, rfl⟩
          first | rw [totV_yes hf] | rw [totV_no hf]
          go_wp2_with fail
          refine (stotal_walk _ _ _ _ hmem _ s2).mono ?_
          rintro e w' ⟨rfl, rfl⟩
          first | rw [totV_yes (by rw [SM.out]; exact hf), SM.out] | rw [totV_no (by rw [SM.out]; exact hf)]
          generalize xs.sum = sm at *
          go_wp2
          go_ret
          exact ⟨rfl, hbw⟩

end Go.Proofs.Ytfiaallnnpcbmaa
