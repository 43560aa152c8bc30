/- The walk of the reference's Read. -/
import Derived.Test.YtgaidleepjkldaaRd
namespace Go.Proofs.Ytgaidleepjkldaa
open Go.RowKit

def RdB (w : World) (xs : List Nat) (e : Ending) (w' : World) : Prop := e = .returned (RdV3 (readS xs)) ∧ Below w.heap.size w w'
theorem size_len (x : Nat) : (size x).length = if x < 253 then 1 else if x < 65536 then 3 else if x < 4294967296 then 5 else 9 := by
  unfold size
  repeat' split
  all_goals simp [be_length]
set_option maxHeartbeats 400000 in
theorem rread_nil (a : Option Addr) (cap : Nat) (w : World) : Calls Try.prog 27 #[.slice a 0 cap] w (RdB w []) := by
  go_enter Try.func27, Try.ntmps27
  go_wp2
  go_ret3
  exact ⟨rfl, Below.refl _ _⟩
set_option maxHeartbeats 400000 in
theorem rread_one (b off n cap h : Nat) (t : List Nat) (hh : folN h = 0) (hc : h < 256) (hn : 0 < n) (w : World) (h0 : w.cell? ⟨b, off, none⟩ = some (.int .u8 (h : Int))) : Calls Try.prog 27 #[.slice (some ⟨b, off, none⟩) n cap] w (RdB w (h :: t)) := by
  have fin := hid (readS_one t hh)
  have t0 : ((n : Int) == 0) = false := by simp; omega
  have hn0 : 0 < n := by omega
  have t4 : decide ((n : Int) < 1) = false := by rw [decide_eq_false_iff_not]; omega
  have t1 : ((h : Int) == 253) = false := nbeq (by rintro rfl; exact absurd hh (by decide))
  have t2 : ((h : Int) == 254) = false := nbeq (by rintro rfl; exact absurd hh (by decide))
  have t3 : ((h : Int) == 255) = false := nbeq (by rintro rfl; exact absurd hh (by decide))
  clear hh
  go_enter Try.func27, Try.ntmps27
  go_wp2
  go_ret3
  exact ⟨by rw [fin.out]; rfl, Below.refl _ _⟩
set_option maxHeartbeats 1000000 in
theorem rread_2 (b off n cap : Nat) (t : List Nat) (hl : t.length + 1 = n) (ht : ∀ d ∈ t, d < 256) (hn : n ≤ 140737488355328) (w : World) (h0 : w.cell? ⟨b, off, none⟩ = some (.int .u8 (253 : Int))) (hc : ∀ k, k < t.length → w.cell? ⟨b, off + 1 + k, none⟩ = some (.int .u8 ((t.getD k 0 : Nat) : Int))) :
    Calls Try.prog 27 #[.slice (some ⟨b, off, none⟩) n cap] w (RdB w (253 :: t)) := by
  have t0 : ((n : Int) == 0) = false := by simp; omega
  have hn0 : 0 < n := by omega
  by_cases hs : t.length < 2
  · have fin := hid (readS_short (h := 253) (by decide) hs)
    have t1 : decide ((n : Int) < 3) = true := by rw [decide_eq_true_eq]; omega
    clear hs hl hc
    go_enter Try.func27, Try.ntmps27
    go_wp2
    go_ret3
    exact ⟨by rw [fin.out]; rfl, Below.refl _ _⟩
  · have t1 : decide ((n : Int) < 3) = false := by rw [decide_eq_false_iff_not]; omega
    have hn2 : 2 < n := by omega
    clear hn0
    have HS := hid hs
    have HL := hid hl
    clear hs hl
    go_enter Try.func27, Try.ntmps27
    go_wp2
    go_loopw [6, 7] (fun x0 i0 wr => ∃ k : Nat, k ≤ 2 ∧ i0 = .int .i64 ((1 + k : Nat) : Int) ∧ x0 = .int .u64 ((beVal (t.take k) : Nat) : Int) ∧ wr = w) (fun _ i0 _ => 3 - (intOf i0).toNat)
    case atStart => exact ⟨0, by omega, rfl, rfl, rfl⟩
    case round =>
      obtain ⟨k, hk, rfl, rfl, rfl⟩ := hrel
      by_cases hlt : k < 2
      · have hkt : k < t.length := by have := HS.out; omega
        have st := hid (beVal_step hkt)
        have hd := getD_ltM ht (by decide) k
        have hcx := hc k hkt
        rw [Nat.add_assoc] at hcx
        have bx := beVal_take_lt ht (k := k) (by omega)
        generalize t.getD k 0 = d at *
        generalize beVal (t.take k) = x at *
        clear hc h0 t0 t1
        go_wp2
        go_roundw
        case rel => exact ⟨k + 1, by omega, by go_num, by rw [st.out]; go_num, trivial⟩
        case measure => simp [intOf]; omega
      · obtain rfl : k = 2 := by omega
        have hb := beVal_lt (t.take 2) (fun d hd => ht d (List.mem_of_mem_take hd))
        have hlen : (t.take 2).length = 2 := by have := HS.out; simp; omega
        rw [hlen] at hb
        have hx64 : beVal (t.take 2) < 18446744073709551616 := by omega
        have sl := size_len (beVal (t.take 2))
        have e3 : folN 253 = 2 := by decide
        have hS := fun wx => hid (rsize_walk _ hx64 wx)
        by_cases hv : beVal (t.take 2) < 253
        · have fin := hid (readS_form (h := 253) (by decide) HS.out hv)
          have t2 : (((size (beVal (t.take 2))).length : Int) == 3) = false := nbeq (by rw [sl]; (repeat' split) <;> omega)
          generalize beVal (t.take 2) = x at *
          clear hc sl hb hv
          go_wp2_with fail
          refine ((hS _).out).mono ?_
          rintro e w1 ⟨v, rfl, hown, b1⟩
          obtain ⟨a1, c1, rfl, s1⟩ := SlV.of_owns hown
          clear hown s1
          go_wp2
          go_ret3
          exact ⟨by rw [fin.out]; rfl, b1⟩
        · have fin := hid (readS_ok (h := 253) (by decide) HS.out hv)
          rw [e3] at fin
          have t2 : (((size (beVal (t.take 2))).length : Int) == 3) = true := ybeq (by rw [sl]; (repeat' split) <;> omega)
          generalize beVal (t.take 2) = x at *
          clear hc sl hb hv
          go_wp2_with fail
          refine ((hS _).out).mono ?_
          rintro e w1 ⟨v, rfl, hown, b1⟩
          obtain ⟨a1, c1, rfl, s1⟩ := SlV.of_owns hown
          clear hown s1
          go_wp2
          go_ret3
          exact ⟨by rw [fin.out]; rfl, b1⟩
set_option maxHeartbeats 1000000 in
theorem rread_4 (b off n cap : Nat) (t : List Nat) (hl : t.length + 1 = n) (ht : ∀ d ∈ t, d < 256) (hn : n ≤ 140737488355328) (w : World) (h0 : w.cell? ⟨b, off, none⟩ = some (.int .u8 (254 : Int))) (hc : ∀ k, k < t.length → w.cell? ⟨b, off + 1 + k, none⟩ = some (.int .u8 ((t.getD k 0 : Nat) : Int))) :
    Calls Try.prog 27 #[.slice (some ⟨b, off, none⟩) n cap] w (RdB w (254 :: t)) := by
  have t0 : ((n : Int) == 0) = false := by simp; omega
  have hn0 : 0 < n := by omega
  by_cases hs : t.length < 4
  · have fin := hid (readS_short (h := 254) (by decide) hs)
    have t1 : decide ((n : Int) < 5) = true := by rw [decide_eq_true_eq]; omega
    clear hs hl hc
    go_enter Try.func27, Try.ntmps27
    go_wp2
    go_ret3
    exact ⟨by rw [fin.out]; rfl, Below.refl _ _⟩
  · have t1 : decide ((n : Int) < 5) = false := by rw [decide_eq_false_iff_not]; omega
    have hn2 : 4 < n := by omega
    clear hn0
    have HS := hid hs
    have HL := hid hl
    clear hs hl
    go_enter Try.func27, Try.ntmps27
    go_wp2
    go_loopw [6, 7] (fun x0 i0 wr => ∃ k : Nat, k ≤ 4 ∧ i0 = .int .i64 ((1 + k : Nat) : Int) ∧ x0 = .int .u64 ((beVal (t.take k) : Nat) : Int) ∧ wr = w) (fun _ i0 _ => 5 - (intOf i0).toNat)
    case atStart => exact ⟨0, by omega, rfl, rfl, rfl⟩
    case round =>
      obtain ⟨k, hk, rfl, rfl, rfl⟩ := hrel
      by_cases hlt : k < 4
      · have hkt : k < t.length := by have := HS.out; omega
        have st := hid (beVal_step hkt)
        have hd := getD_ltM ht (by decide) k
        have hcx := hc k hkt
        rw [Nat.add_assoc] at hcx
        have bx := beVal_take_lt ht (k := k) (by omega)
        generalize t.getD k 0 = d at *
        generalize beVal (t.take k) = x at *
        clear hc h0 t0 t1
        go_wp2
        go_roundw
        case rel => exact ⟨k + 1, by omega, by go_num, by rw [st.out]; go_num, trivial⟩
        case measure => simp [intOf]; omega
      · obtain rfl : k = 4 := by omega
        have hb := beVal_lt (t.take 4) (fun d hd => ht d (List.mem_of_mem_take hd))
        have hlen : (t.take 4).length = 4 := by have := HS.out; simp; omega
        rw [hlen] at hb
        have hx64 : beVal (t.take 4) < 18446744073709551616 := by omega
        have sl := size_len (beVal (t.take 4))
        have e3 : folN 254 = 4 := by decide
        have hS := fun wx => hid (rsize_walk _ hx64 wx)
        by_cases hv : beVal (t.take 4) < 65536
        · have fin := hid (readS_form (h := 254) (by decide) HS.out hv)
          have t2 : (((size (beVal (t.take 4))).length : Int) == 5) = false := nbeq (by rw [sl]; (repeat' split) <;> omega)
          generalize beVal (t.take 4) = x at *
          clear hc sl hb hv
          go_wp2_with fail
          refine ((hS _).out).mono ?_
          rintro e w1 ⟨v, rfl, hown, b1⟩
          obtain ⟨a1, c1, rfl, s1⟩ := SlV.of_owns hown
          clear hown s1
          go_wp2
          go_ret3
          exact ⟨by rw [fin.out]; rfl, b1⟩
        · have fin := hid (readS_ok (h := 254) (by decide) HS.out hv)
          rw [e3] at fin
          have t2 : (((size (beVal (t.take 4))).length : Int) == 5) = true := ybeq (by rw [sl]; (repeat' split) <;> omega)
          generalize beVal (t.take 4) = x at *
          clear hc sl hb hv
          go_wp2_with fail
          refine ((hS _).out).mono ?_
          rintro e w1 ⟨v, rfl, hown, b1⟩
          obtain ⟨a1, c1, rfl, s1⟩ := SlV.of_owns hown
          clear hown s1
          go_wp2
          go_ret3
          exact ⟨by rw [fin.out]; rfl, b1⟩
set_option maxHeartbeats 1000000 in
theorem rread_8 (b off n cap : Nat) (t : List Nat) (hl : t.length + 1 = n) (ht : ∀ d ∈ t, d < 256) (hn : n ≤ 140737488355328) (w : World) (h0 : w.cell? ⟨b, off, none⟩ = some (.int .u8 (255 : Int))) (hc : ∀ k, k < t.length → w.cell? ⟨b, off + 1 + k, none⟩ = some (.int .u8 ((t.getD k 0 : Nat) : Int))) :
    Calls Try.prog 27 #[.slice (some ⟨b, off, none⟩) n cap] w (RdB w (255 :: t)) := by
  have t0 : ((n : Int) == 0) = false := by simp; omega
  have hn0 : 0 < n := by omega
  by_cases hs : t.length < 8
  · have fin := hid (readS_short (h := 255) (by decide) hs)
    have t1 : decide ((n : Int) < 9) = true := by rw [decide_eq_true_eq]; omega
    clear hs hl hc
    go_enter Try.func27, Try.ntmps27
    go_wp2
    go_ret3
    exact ⟨by rw [fin.out]; rfl, Below.refl _ _⟩
  · have t1 : decide ((n : Int) < 9) = false := by rw [decide_eq_false_iff_not]; omega
    have hn2 : 8 < n := by omega
    clear hn0
    have HS := hid hs
    have HL := hid hl
    clear hs hl
    go_enter Try.func27, Try.ntmps27
    go_wp2
    go_loopw [6, 7] (fun x0 i0 wr => ∃ k : Nat, k ≤ 8 ∧ i0 = .int .i64 ((1 + k : Nat) : Int) ∧ x0 = .int .u64 ((beVal (t.take k) : Nat) : Int) ∧ wr = w) (fun _ i0 _ => 9 - (intOf i0).toNat)
    case atStart => exact ⟨0, by omega, rfl, rfl, rfl⟩
    case round =>
      obtain ⟨k, hk, rfl, rfl, rfl⟩ := hrel
      by_cases hlt : k < 8
      · have hkt : k < t.length := by have := HS.out; omega
        have st := hid (beVal_step hkt)
        have hd := getD_ltM ht (by decide) k
        have hcx := hc k hkt
        rw [Nat.add_assoc] at hcx
        have bx := beVal_take_lt ht (k := k) (by omega)
        generalize t.getD k 0 = d at *
        generalize beVal (t.take k) = x at *
        clear hc h0 t0 t1
        go_wp2
        go_roundw
        case rel => exact ⟨k + 1, by omega, by go_num, by rw [st.out]; go_num, trivial⟩
        case measure => simp [intOf]; omega
      · obtain rfl : k = 8 := by omega
        have hb := beVal_lt (t.take 8) (fun d hd => ht d (List.mem_of_mem_take hd))
        have hlen : (t.take 8).length = 8 := by have := HS.out; simp; omega
        rw [hlen] at hb
        have hx64 : beVal (t.take 8) < 18446744073709551616 := by omega
        have sl := size_len (beVal (t.take 8))
        have e3 : folN 255 = 8 := by decide
        have hS := fun wx => hid (rsize_walk _ hx64 wx)
        by_cases hv : beVal (t.take 8) < 4294967296
        · have fin := hid (readS_form (h := 255) (by decide) HS.out hv)
          have t2 : (((size (beVal (t.take 8))).length : Int) == 9) = false := nbeq (by rw [sl]; (repeat' split) <;> omega)
          generalize beVal (t.take 8) = x at *
          clear hc sl hb hv
          go_wp2_with fail
          refine ((hS _).out).mono ?_
          rintro e w1 ⟨v, rfl, hown, b1⟩
          obtain ⟨a1, c1, rfl, s1⟩ := SlV.of_owns hown
          clear hown s1
          go_wp2
          go_ret3
          exact ⟨by rw [fin.out]; rfl, b1⟩
        · have fin := hid (readS_ok (h := 255) (by decide) HS.out hv)
          rw [e3] at fin
          have t2 : (((size (beVal (t.take 8))).length : Int) == 9) = true := ybeq (by rw [sl]; (repeat' split) <;> omega)
          generalize beVal (t.take 8) = x at *
          clear hc sl hb hv
          go_wp2_with fail
          refine ((hS _).out).mono ?_
          rintro e w1 ⟨v, rfl, hown, b1⟩
          obtain ⟨a1, c1, rfl, s1⟩ := SlV.of_owns hown
          clear hown s1
          go_wp2
          go_ret3
          exact ⟨by rw [fin.out]; rfl, b1⟩
theorem rread_walk (a : Option Addr) (n cap : Nat) (xs : List Nat) (hx : ∀ d ∈ xs, d < 256) (hn : n ≤ 140737488355328) (w : World) (hS : Sl .u8 w a n cap xs) :
    Calls Try.prog 27 #[.slice a n cap] w (RdB w xs) := by
  have hl := hS.len
  obtain ⟨b, off, ha, hc⟩ := hS.opened
  cases xs with
  | nil => obtain rfl : n = 0 := by simpa using hl.symm
           exact rread_nil a cap w
  | cons h t =>
    obtain rfl := ha (by rw [← hl]; simp)
    obtain ⟨h0, ht⟩ := cell_tail hl hc
    have hh := hx h (by simp)
    have hx' : ∀ d ∈ t, d < 256 := fun d hd => hx d (by simp [hd])
    by_cases h1 : h = 253
    · subst h1; exact rread_2 b off n cap t hl hx' hn w h0 ht
    · by_cases h2 : h = 254
      · subst h2; exact rread_4 b off n cap t hl hx' hn w h0 ht
      · by_cases h3 : h = 255
        · subst h3; exact rread_8 b off n cap t hl hx' hn w h0 ht
        · exact rread_one b off n cap h t (by simp [folN, h1, h2, h3]) hh (by rw [← hl]; simp) w h0
end Go.Proofs.Ytgaidleepjkldaa
