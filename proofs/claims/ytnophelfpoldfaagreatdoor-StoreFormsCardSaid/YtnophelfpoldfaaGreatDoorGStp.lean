/- The walk of the reference's Read. -/
import Derived.Test.YtnophelfpoldfaaGreatDoorGRd
namespace Go.Proofs.YtnophelfpoldfaaGreatDoor
open Go.RowKit

def RdB (w : World) (xs : List Nat) (e : Ending) (w' : World) : Prop := e = .returned (RdV3 (readS xs)) ∧ Below w.heap.size w w'
theorem size_len (x : Nat) : (size x).length = if x < 253 then 1 else if x < 65536 then 3 else if x < 4294967296 then 5 else 9 := by
  unfold size
  repeat' split
  all_goals simp [be_length]
set_option maxHeartbeats 400000 in
theorem rread_nil (a : Option Addr) (cap : Nat) (w : World) : Calls Tryz.prog 46 #[.slice a 0 cap] w (RdB w []) := by
  go_enter Tryz.func46, Tryz.ntmps46
  go_wp2
  go_ret3
  exact ⟨rfl, Below.refl _ _⟩
set_option maxHeartbeats 400000 in
theorem rread_one (b off n cap h : Nat) (t : List Nat) (hh : folN h = 0) (hc : h < 256) (hn : 0 < n) (w : World) (h0 : w.cell? ⟨b, off, none⟩ = some (.int .u8 (h : Int))) : Calls Tryz.prog 46 #[.slice (some ⟨b, off, none⟩) n cap] w (RdB w (h :: t)) := by
  have fin := hid (readS_one t hh)
  have t0 : ((n : Int) == 0) = false := by simp; omega
  have hn0 : 0 < n := by omega
  have t4 : decide ((n : Int) < 1) = false := by rw [decide_eq_false_iff_not]; omega
  have t1 : ((h : Int) == 253) = false := nbeq (by rintro rfl; exact absurd hh (by decide))
  have t2 : ((h : Int) == 254) = false := nbeq (by rintro rfl; exact absurd hh (by decide))
  have t3 : ((h : Int) == 255) = false := nbeq (by rintro rfl; exact absurd hh (by decide))
  clear hh
  go_enter Tryz.func46, Tryz.ntmps46
  go_wp2
  go_ret3
  exact ⟨by rw [fin.out]; rfl, Below.refl _ _⟩
set_option maxHeartbeats 1000000 in
theorem rread_2 (b off n cap : Nat) (t : List Nat) (hl : t.length + 1 = n) (ht : ∀ d ∈ t, d < 256) (hn : n ≤ 140737488355328) (w : World) (h0 : w.cell? ⟨b, off, none⟩ = some (.int .u8 (253 : Int))) (hc : ∀ k, k < t.length → w.cell? ⟨b, off + 1 + k, none⟩ = some (.int .u8 ((t.getD k 0 : Nat) : Int))) :
    Calls Tryz.prog 46 #[.slice (some ⟨b, off, none⟩) n cap] w (RdB w (253 :: t)) := by
  have t0 : ((n : Int) == 0) = false := by simp; omega
  have hn0 : 0 < n := by omega
  by_cases hs : t.length < 2
  · have fin := hid (readS_short (h := 253) (by decide) hs)
    have t1 : decide ((n : Int) < 3) = true := by rw [decide_eq_true_eq]; omega
    clear hs hl hc
    go_enter Tryz.func46, Tryz.ntmps46
    go_wp2
    go_ret3
    exact ⟨by rw [fin.out]; rfl, Below.refl _ _⟩
  · have t1 : decide ((n : Int) < 3) = false := by rw [decide_eq_false_iff_not]; omega
    have hn2 : 2 < n := by omega
    clear hn0
    have HS := hid hs
    have HL := hid hl
    clear hs hl
    go_enter Tryz.func46, Tryz.ntmps46
    go_wp2
    go_loopw [6, 7] (fun x0 i0 wr => ∃ k : Nat, k ≤ 2 ∧ i0 = .int .i64 ((1 + k : Nat) : Int) ∧ x0 = .int .u64 ((beVal (t.take k) : Nat) : Int) ∧ wr = w) (fun _ i0 _ => 3 - (intOf i0).toNat)
    case atStart => exact ⟨0, by omega, rfl, rfl, rfl⟩
    case round =>
      obtain ⟨k, hk, rfl, rfl, rfl⟩ := hrel
      by_cases hlt : k < 2
      · have hkt : k < t.length := by have := HS.out; omega
        have st := hid (beVal_step hkt)
        have hd := getD_ltM ht (by decide) k
        have hcx := hc k hkt
        rw [Nat.add_assoc] at hcx
        have bx := beVal_take_lt ht (k := k) (by omega)
        generalize t.getD k 0 = d at *
        generalize beVal (t.take k) = x at *
        clear hc h0 t0 t1
        go_wp2
        go_roundw
        case rel => exact ⟨k + 1, by omega, by go_num, by rw [st.out]; go_num, trivial⟩
        case measure => simp [intOf]; omega
      · obtain rfl : k = 2 := by omega
        have hb := beVal_lt (t.take 2) (fun d hd => ht d (List.mem_of_mem_take hd))
        have hlen : (t.take 2).length = 2 := by have := HS.out; simp; omega
        rw [hlen] at hb
        have hx64 : beVal (t.take 2) < 18446744073709551616 := by omega
        have sl := size_len (beVal (t.take 2))
        have e3 : folN 253 = 2 := by decide
        have hS := fun wx => hid (rsize_walk _ hx64 wx)
        by_cases hv : beVal (t.take 2) < 253
        · have fin := hid (readS_form (h := 253) (by decide) HS.out hv)
          have t2 : (((size (beVal (t.take 2))).length : Int) == 3) = false := nbeq (by rw [sl]; (repeat' split) <;> omega)
          generalize beVal (t.take 2) = x at *
          clear hc sl hb hv
          go_wp2_with fail
          refine ((hS _).out).mono ?_
          rintro e w1 ⟨v, rfl, hown, b1⟩
          obtain ⟨a1, c1, rfl, s1⟩ := SlV.of_owns hown
          clear hown s1
          go_wp2
          go_ret3
          exact ⟨by rw [fin.out]; rfl, b1⟩
        · have fin := hid (readS_ok (h := 253) (by decide) HS.out hv)
          rw [e3] at fin
          have t2 : (((size (beVal (t.take 2))).length : Int) == 3) = true := ybeq (by rw [sl]; (repeat' split) <;> omega)
          generalize beVal (t.take 2) = x at *
          clear hc sl hb hv
          go_wp2_with fail
          refine ((hS _).out).mono ?_
          rintro e w1 ⟨v, rfl, hown, b1⟩
          obtain ⟨a1, c1, rfl, s1⟩ := SlV.of_owns hown
          clear hown s1
          go_wp2
          go_ret3
          exact ⟨by rw [fin.out]; rfl, b1⟩
set_option maxHeartbeats 1000000 in
theorem rread_4 (b off n cap : Nat) (t : List Nat) (hl : t.length + 1 = n) (ht : ∀ d ∈ t, d < 256) (hn : n ≤ 140737488355328) (w : World) (h0 : w.cell? ⟨b, off, none⟩ = some (.int .u8 (254 : Int))) (hc : ∀ k, k < t.length → w.cell? ⟨b, off + 1 + k, none⟩ = some (.int .u8 ((t.getD k 0 : Nat) : Int))) :
    Calls Tryz.prog 46 #[.slice (some ⟨b, off, none⟩) n cap] w (RdB w (254 :: t)) := by
  have t0 : ((n : Int) == 0) = false := by simp; omega
  have hn0 : 0 < n := by omega
  by_cases hs : t.length < 4
  · have fin := hid (readS_short (h := 254) (by decide) hs)
    have t1 : decide ((n : Int) < 5) = true := by rw [decide_eq_true_eq]; omega
    clear hs hl hc
    go_enter Tryz.func46, Tryz.ntmps46
    go_wp2
    go_ret3
    exact ⟨by rw [fin.out]; rfl, Below.refl _ _⟩
  · have t1 : decide ((n : Int) < 5) = false := by rw [decide_eq_false_iff_not]; omega
    have hn2 : 4 < n := by omega
    clear hn0
    have HS := hid hs
    have HL := hid hl
    clear hs hl
    go_enter Tryz.func46, Tryz.ntmps46
    go_wp2
    go_loopw [6, 7] (fun x0 i0 wr => ∃ k : Nat, k ≤ 4 ∧ i0 = .int .i64 ((1 + k : Nat) : Int) ∧ x0 = .int .u64 ((beVal (t.take k) : Nat) : Int) ∧ wr = w) (fun _ i0 _ => 5 - (intOf i0).toNat)
    case atStart => exact ⟨0, by omega, rfl, rfl, rfl⟩
    case round =>
      obtain ⟨k, hk, rfl, rfl, rfl⟩ := hrel
      by_cases hlt : k < 4
      · have hkt : k < t.length := by have := HS.out; omega
        have st := hid (beVal_step hkt)
        have hd := getD_ltM ht (by decide) k
        have hcx := hc k hkt
        rw [Nat.add_assoc] at hcx
        have bx := beVal_take_lt ht (k := k) (by omega)
        generalize t.getD k 0 = d at *
        generalize beVal (t.take k) = x at *
        clear hc h0 t0 t1
        go_wp2
        go_roundw
        case rel => exact ⟨k + 1, by omega, by go_num, by rw [st.out]; go_num, trivial⟩
        case measure => simp [intOf]; omega
      · obtain rfl : k = 4 := by omega
        have hb := beVal_lt (t.take 4) (fun d hd => ht d (List.mem_of_mem_take hd))
        have hlen : (t.take 4).length = 4 := by have := HS.out; simp; omega
        rw [hlen] at hb
        have hx64 : beVal (t.take 4) < 18446744073709551616 := by omega
        have sl := size_len (beVal (t.take 4))
        have e3 : folN 254 = 4 := by decide
        have hS := fun wx => hid (rsize_walk _ hx64 wx)
        by_cases hv : beVal (t.take 4) < 65536
        · have fin := hid (readS_form (h := 254) (by decide) HS.out hv)
          have t2 : (((size (beVal (t.take 4))).length : Int) == 5) = false := nbeq (by rw [sl]; (repeat' split) <;> omega)
          generalize beVal (t.take 4) = x at *
          clear hc sl hb hv
          go_wp2_with fail
          refine ((hS _).out).mono ?_
          rintro e w1 ⟨v, rfl, hown, b1⟩
          obtain ⟨a1, c1, rfl, s1⟩ := SlV.of_owns hown
          clear hown s1
          go_wp2
          go_ret3
          exact ⟨by rw [fin.out]; rfl, b1⟩
        · have fin := hid (readS_ok (h := 254) (by decide) HS.out hv)
          rw [e3] at fin
          have t2 : (((size (beVal (t.take 4))).length : Int) == 5) = true := ybeq (by rw [sl]; (repeat' split) <;> omega)
          generalize beVal (t.take 4) = x at *
          clear hc sl hb hv
          go_wp2_with fail
          refine ((hS _).out).mono ?_
          rintro e w1 ⟨v, rfl, hown, b1⟩
          obtain ⟨a1, c1, rfl, s1⟩ := SlV.of_owns hown
          clear hown s1
          go_wp2
          go_ret3
          exact ⟨by rw [fin.out]; rfl, b1⟩
set_option maxHeartbeats 1000000 in
theorem rread_8 (b off n cap : Nat) (t : List Nat) (hl : t.length + 1 = n) (ht : ∀ d ∈ t, d < 256) (hn : n ≤ 140737488355328) (w : World) (h0 : w.cell? ⟨b, off, none⟩ = some (.int .u8 (255 : Int))) (hc : ∀ k, k < t.length → w.cell? ⟨b, off + 1 + k, none⟩ = some (.int .u8 ((t.getD k 0 : Nat) : Int))) :
    Calls Tryz.prog 46 #[.slice (some ⟨b, off, none⟩) n cap] w (RdB w (255 :: t)) := by
  have t0 : ((n : Int) == 0) = false := by simp; omega
  have hn0 : 0 < n := by omega
  by_cases hs : t.length < 8
  · have fin := hid (readS_short (h := 255) (by decide) hs)
    have t1 : decide ((n : Int) < 9) = true := by rw [decide_eq_true_eq]; omega
    clear hs hl hc
    go_enter Tryz.func46, Tryz.ntmps46
    go_wp2
    go_ret3
    exact ⟨by rw [fin.out]; rfl, Below.refl _ _⟩
  · have t1 : decide ((n : Int) < 9) = false := by rw [decide_eq_false_iff_not]; omega
    have hn2 : 8 < n := by omega
    clear hn0
    have HS := hid hs
    have HL := hid hl
    clear hs hl
    go_enter Tryz.func46, Tryz.ntmps46
    go_wp2
    go_loopw [6, 7] (fun x0 i0 wr => ∃ k : Nat, k ≤ 8 ∧ i0 = .int .i64 ((1 + k : Nat) : Int) ∧ x0 = .int .u64 ((beVal (t.take k) : Nat) : Int) ∧ wr = w) (fun _ i0 _ => 9 - (intOf i0).toNat)
    case atStart => exact ⟨0, by omega, rfl, rfl, rfl⟩
    case round =>
      obtain ⟨k, hk, rfl, rfl, rfl⟩ := hrel
      by_cases hlt : k < 8
      · have hkt : k < t.length := by have := HS.out; omega
        have st := hid (beVal_step hkt)
        have hd := getD_ltM ht (by decide) k
        have hcx := hc k hkt
        rw [Nat.add_assoc] at hcx
        have bx := beVal_take_lt ht (k := k) (by omega)
        generalize t.getD k 0 = d at *
        generalize beVal (t.take k) = x at *
        clear hc h0 t0 t1
        go_wp2
        go_roundw
        case rel => exact ⟨k + 1, by omega, by go_num, by rw [st.out]; go_num, trivial⟩
        case measure => simp [intOf]; omega
      · obtain rfl : k = 8 := by omega
        have hb := beVal_lt (t.take 8) (fun d hd => ht d (List.mem_of_mem_take hd))
        have hlen : (t.take 8).length = 8 := by have := HS.out; simp; omega
        rw [hlen] at hb
        have hx64 : beVal (t.take 8) < 18446744073709551616 := by omega
        have sl := size_len (beVal (t.take 8))
        have e3 : folN 255 = 8 := by decide
        have hS := fun wx => hid (rsize_walk _ hx64 wx)
        by_cases hv : beVal (t.take 8) < 4294967296
        · have fin := hid (readS_form (h := 255) (by decide) HS.out hv)
          have t2 : (((size (beVal (t.take 8))).length : Int) == 9) = false := nbeq (by rw [sl]; (repeat' split) <;> omega)
          generalize beVal (t.take 8) = x at *
          clear hc sl hb hv
          go_wp2_with fail
          refine ((hS _).out).mono ?_
          rintro e w1 ⟨v, rfl, hown, b1⟩
          obtain ⟨a1, c1, rfl, s1⟩ := SlV.of_owns hown
          clear hown s1
          go_wp2
          go_ret3
          exact ⟨by rw [fin.out]; rfl, b1⟩
        · have fin := hid (readS_ok (h := 255) (by decide) HS.out hv)
          rw [e3] at fin
          have t2 : (((size (beVal (t.take 8))).length : Int) == 9) = true := ybeq (by rw [sl]; (repeat' split) <;> omega)
          generalize beVal (t.take 8) = x at *
          clear hc sl hb hv
          go_wp2_with fail
          refine ((hS _).out).mono ?_
          rintro e w1 ⟨v, rfl, hown, b1⟩
          obtain ⟨a1, c1, rfl, s1⟩ := SlV.of_owns hown
          clear hown s1
          go_wp2
          go_ret3
          exact ⟨by rw [fin.out]; rfl, b1⟩
theorem rread_walk (a : Option Addr) (n cap : Nat) (xs : List Nat) (hx : ∀ d ∈ xs, d < 256) (hn : n ≤ 140737488355328) (w : World) (hS : Sl .u8 w a n cap xs) :
    Calls Tryz.prog 46 #[.slice a n cap] w (RdB w xs) := by
  have hl := hS.len
  obtain ⟨b, off, ha, hc⟩ := hS.opened
  cases xs with
  | nil =>
    obtain rfl : n = 0 := by simpa using hl.symm
    exact rread_nil a cap w
  | cons h t =>
    obtain rfl := ha (by rw [← hl]; simp)
    obtain ⟨h0, ht⟩ := cell_tail hl hc
    have hh := hx h (by simp)
    have hx' : ∀ d ∈ t, d < 256 := fun d hd => hx d (by simp [hd])
    by_cases h1 : h = 253
    · subst h1; exact rread_2 b off n cap t hl hx' hn w h0 ht
    · by_cases h2 : h = 254
      · subst h2; exact rread_4 b off n cap t hl hx' hn w h0 ht
      · by_cases h3 : h = 255
        · subst h3; exact rread_8 b off n cap t hl hx' hn w h0 ht
        · exact rread_one b off n cap h t (by simp [folN, h1, h2, h3]) hh (by rw [← hl]; simp) w h0
end Go.Proofs.YtnophelfpoldfaaGreatDoor

/- Plain facts on numbers as bytes. -/
namespace Go.Proofs.YtnophelfpoldfaaGreatDoor
open Go.RowKit

theorem beVal_be (n x : Nat) : beVal (be n x) = x % 256 ^ n := by
  induction n generalizing x with
  | zero => simp [be, beVal, Nat.mod_one]
  | succ n ih =>
    have key : ∀ (l : List Nat) (s : Nat), l.foldl (fun x c => x * 256 + c) s = s * 256 ^ l.length + l.foldl (fun x c => x * 256 + c) 0 := by
      intro l
      induction l with
      | nil => simp
      | cons c r ih =>
        intro s
        simp only [List.foldl_cons, List.length_cons]
        rw [ih (s * 256 + c), ih (0 * 256 + c), Nat.pow_succ]
        generalize 256 ^ r.length = p
        rw [Nat.add_mul, Nat.zero_mul, Nat.zero_add, Nat.mul_assoc, Nat.mul_comm 256 p, Nat.add_assoc]
    show List.foldl _ _ (be (n + 1) x) = _
    rw [be, List.foldl_cons, key, be_length]
    have := ih x
    unfold beVal at this
    rw [this, Nat.zero_mul, Nat.zero_add, Nat.pow_succ, Nat.mod_mul]
    generalize 256 ^ n = p
    rw [Nat.mul_comm, Nat.add_comm]
theorem readS_size (x : Nat) (hx : x < 18446744073709551616) (ys : List Nat) : readS (size x ++ ys) = (x, (size x).length, 0) := by
  unfold size
  split
  · rename_i h
    show readS (x :: ys) = _
    rw [readS_one _ (by unfold folN; (repeat' split) <;> omega)]
    rfl
  · rename_i h1
    split
    · rename_i h2
      show readS (253 :: (be 2 x ++ ys)) = _
      have e : (be 2 x ++ ys).take (folN 253) = be 2 x := List.take_left' (be_length 2 x)
      rw [readS_ok (by decide) (by rw [List.length_append, be_length]; have : folN 253 = 2 := rfl; omega) (by rw [e, beVal_be, show folL 253 = 253 from rfl]; omega), e, beVal_be]
      simp [be_length, folN]
      omega
    · rename_i h2
      split
      · rename_i h3
        show readS (254 :: (be 4 x ++ ys)) = _
        have e : (be 4 x ++ ys).take (folN 254) = be 4 x := List.take_left' (be_length 4 x)
        rw [readS_ok (by decide) (by rw [List.length_append, be_length]; have : folN 254 = 4 := rfl; omega) (by rw [e, beVal_be, show folL 254 = 65536 from rfl]; omega), e, beVal_be]
        simp [be_length, folN]
        omega
      · rename_i h3
        show readS (255 :: (be 8 x ++ ys)) = _
        have e : (be 8 x ++ ys).take (folN 255) = be 8 x := List.take_left' (be_length 8 x)
        rw [readS_ok (by decide) (by rw [List.length_append, be_length]; have : folN 255 = 8 := rfl; omega) (by rw [e, beVal_be, show folL 255 = 4294967296 from rfl]; omega), e, beVal_be]
        simp [be_length, folN]
        omega
theorem readS_cut (x : Nat) (k : Nat) (hk : k < (size x).length) : readS ((size x).take k) = (0, 0, 20) := by
  unfold size at *
  cases k with
  | zero => rfl
  | succ k =>
    split at hk
    · simp at hk
    · rename_i h1
      rw [if_neg h1]
      split at hk
      · rename_i h2
        rw [if_pos h2]
        rw [List.take_succ_cons]
        exact readS_short (by decide) (by simp [be_length, folN] at *; omega)
      · rename_i h2
        rw [if_neg h2]
        split at hk
        · rename_i h3
          rw [if_pos h3, List.take_succ_cons]
          exact readS_short (by decide) (by simp [be_length, folN] at *; omega)
        · rename_i h3
          rw [if_neg h3, List.take_succ_cons]
          exact readS_short (by decide) (by simp [be_length, folN] at *; omega)
theorem size_len_bd (x : Nat) : 1 ≤ (size x).length ∧ (size x).length ≤ 9 := by
  rw [size_len]
  (repeat' split) <;> omega
end Go.Proofs.YtnophelfpoldfaaGreatDoor

/- Plain facts on records as bytes. No program in sight. -/
namespace Go.Proofs.YtnophelfpoldfaaGreatDoor

abbrev Pr := Nat × List Nat
def encR (r : Pr) : List Nat := size r.1 ++ size r.2.length ++ r.2
def encAll (rs : List Pr) : List Nat := rs.flatMap encR
/-- what is wrong with records, the first of all -/
def encErr : Option Nat → List Pr → Nat
  | _, [] => 0
  | p, r :: s => if p.any (fun q => decide (r.1 ≤ q)) = true then 22 else if 65536 < r.2.length then 3 else encErr (some r.1) s
def encE (rs : List Pr) : Nat := if 256 < rs.length then 4 else encErr none rs
/-- the type of the record ahead -/
def prevT (rs : List Pr) (k : Nat) : Option Nat := match k with | 0 => none | j + 1 => rs[j]?.map (·.1)
theorem encErr_step {rs : List Pr} {k : Nat} {r : Pr} (h : rs[k]? = some r) : encErr (prevT rs k) (rs.drop k) = if (prevT rs k).any (fun q => decide (r.1 ≤ q)) = true then 22 else if 65536 < r.2.length then 3 else encErr (prevT rs (k + 1)) (rs.drop (k + 1)) := by
  have hk : k < rs.length := (List.getElem?_eq_some_iff.1 h).1
  have e : rs.drop k = r :: rs.drop (k + 1) := by
    rw [List.drop_eq_getElem_cons hk]
    congr 1
    rw [List.getElem?_eq_getElem hk] at h
    exact Option.some.inj h
  have e2 : prevT rs (k + 1) = some r.1 := by simp [prevT, h]
  rw [e, encErr, e2]
/-- the records of bytes; n: how many there were; p: the last one's type -/
def decGo : Nat → Option Nat → Nat → List Nat → List Pr × Nat
  | 0, _, _, _ => ([], 0)
  | _, _, _, [] => ([], 0)
  | f + 1, p, n, bs =>
    let a := readS bs
    if a.2.2 ≠ 0 then ([], a.2.2)
    else if p.any (fun q => decide (a.1 ≤ q)) = true then ([], 22)
    else
      let b1 := bs.drop a.2.1
      let c := readS b1
      if c.2.2 ≠ 0 then ([], c.2.2)
      else
        let b2 := b1.drop c.2.1
        if 65536 < c.1 then ([], 3)
        else if b2.length < c.1 then ([], 20)
        else if 256 ≤ n then ([], 4)
        else
          let t := decGo f (some a.1) (n + 1) (b2.drop c.1)
          if t.2 ≠ 0 then ([], t.2) else ((a.1, b2.take c.1) :: t.1, 0)
def decS (bs : List Nat) : List Pr × Nat := decGo (bs.length + 1) none 0 bs

theorem readS_len {bs : List Nat} (h : (readS bs).2.2 = 0) : 1 ≤ (readS bs).2.1 ∧ (readS bs).2.1 ≤ bs.length := by
  cases bs with
  | nil => simp [readS] at h
  | cons x t =>
    unfold readS at *
    by_cases h1 : folN x = 0
    · simp [h1]
    · by_cases h2 : t.length < folN x
      · simp [h1, h2] at h
      · by_cases h3 : beVal (t.take (folN x)) < folL x
        · simp [h1, h2, h3] at h
        · simp [h1, h2, h3]; omega
/-- more steps than bytes are no more than enough -/
theorem decGo_fuel : ∀ (f g : Nat) (p : Option Nat) (n : Nat) (bs : List Nat), bs.length < f → bs.length < g → decGo f p n bs = decGo g p n bs := by
  intro f
  induction f with
  | zero => intro g p n bs h; omega
  | succ f ih =>
    intro g p n bs hf hg
    cases g with
    | zero => omega
    | succ g =>
      cases bs with
      | nil => rfl
      | cons x t =>
        unfold decGo
        by_cases h1 : (readS (x :: t)).2.2 ≠ 0
        · simp [h1]
        · have hl := readS_len (by simpa using h1)
          have key : ∀ q m k j, decGo f q m (((((x :: t).drop (readS (x :: t)).2.1)).drop k).drop j) = decGo g q m (((((x :: t).drop (readS (x :: t)).2.1)).drop k).drop j) := by
            intro q m k j
            apply ih <;> (simp at *; omega)
          simp only [key]
/-- one step -/
theorem decGo_cons (p : Option Nat) (n : Nat) {bs : List Nat} (h0 : bs ≠ []) : decGo (bs.length + 1) p n bs =
    (if (readS bs).2.2 ≠ 0 then ([], (readS bs).2.2)
    else if p.any (fun q => decide ((readS bs).1 ≤ q)) = true then ([], 22)
    else if (readS (bs.drop (readS bs).2.1)).2.2 ≠ 0 then ([], (readS (bs.drop (readS bs).2.1)).2.2)
    else if 65536 < (readS (bs.drop (readS bs).2.1)).1 then ([], 3)
    else if ((bs.drop (readS bs).2.1).drop (readS (bs.drop (readS bs).2.1)).2.1).length < (readS (bs.drop (readS bs).2.1)).1 then ([], 20)
    else if 256 ≤ n then ([], 4)
    else (fun (b3 : List Nat) (v : List Nat) => (if (decGo (b3.length + 1) (some (readS bs).1) (n + 1) b3).2 ≠ 0 then (([] : List Pr), (decGo (b3.length + 1) (some (readS bs).1) (n + 1) b3).2) else (((readS bs).1, v) :: (decGo (b3.length + 1) (some (readS bs).1) (n + 1) b3).1, 0)))
      (((bs.drop (readS bs).2.1).drop (readS (bs.drop (readS bs).2.1)).2.1).drop (readS (bs.drop (readS bs).2.1)).1)
      (((bs.drop (readS bs).2.1).drop (readS (bs.drop (readS bs).2.1)).2.1).take (readS (bs.drop (readS bs).2.1)).1)) := by
  cases bs with
  | nil => exact absurd rfl h0
  | cons x t =>
    by_cases h1 : (readS (x :: t)).2.2 ≠ 0
    · rw [decGo]
      · simp [h1]
      · simp
    · have hl := readS_len (by simpa using h1)
      have hb3 : ((((x :: t).drop (readS (x :: t)).2.1).drop (readS ((x :: t).drop (readS (x :: t)).2.1)).2.1).drop (readS ((x :: t).drop (readS (x :: t)).2.1)).1).length < (x :: t).length := by
        simp at *; omega
      rw [decGo]
      · simp only [decGo_fuel _ (((((x :: t).drop (readS (x :: t)).2.1).drop (readS ((x :: t).drop (readS (x :: t)).2.1)).2.1).drop (readS ((x :: t).drop (readS (x :: t)).2.1)).1).length + 1) _ _ _ hb3 (Nat.lt_succ_self _)]
      · simp
end Go.Proofs.YtnophelfpoldfaaGreatDoor

/- The store, plain: changes, what they make of values at keys, their records. No program in sight. -/
namespace Go.Proofs.YtnophelfpoldfaaGreatDoor

structure Chg where
  k : List Nat
  v : List Nat
  g : Bool
abbrev Mp := List Nat → Option (List Nat)
abbrev Pa := List Nat × List Nat
def stepM (M : Mp) (c : Chg) : Mp := fun x => if x = c.k then (if c.g then none else some c.v) else M x
def takeM (M : Mp) (cs : List Chg) : Mp := cs.foldl stepM M
def stepP (all : List Pa) (c : Chg) : List Pa := all.filter (fun p => decide (p.1 ≠ c.k)) ++ (if c.g then [] else [(c.k, c.v)])
def doneP (all : List Pa) (cs : List Chg) : List Pa := cs.foldl stepP all
/-- pairs are what a map holds, no key twice -/
structure IsP (all : List Pa) (M : Mp) : Prop where
  nd : (all.map (·.1)).Nodup
  mem : ∀ k v, (k, v) ∈ all ↔ M k = some v
theorem IsP.nil : IsP [] (fun _ => none) := ⟨List.nodup_nil, fun k v => by simp⟩
theorem nodup_snoc {α : Type} {l : List α} {x : α} (h : l.Nodup) (hx : x ∉ l) : (l ++ [x]).Nodup := by
  rw [List.nodup_append]
  exact ⟨h, by simp, fun a ha b hb => by simp at hb; subst hb; intro e; subst e; exact hx ha⟩
theorem map_filter_nodup {l : List Pa} (h : (l.map (·.1)).Nodup) (p : Pa → Bool) : ((l.filter p).map (·.1)).Nodup :=
  List.Pairwise.sublist (List.Sublist.map _ List.filter_sublist) h
theorem IsP.step {all : List Pa} {M : Mp} (h : IsP all M) (c : Chg) : IsP (stepP all c) (stepM M c) := by
  unfold stepP stepM
  cases hg : c.g with
  | true =>
    refine ⟨by simpa using map_filter_nodup h.nd _, fun k v => ?_⟩
    by_cases hk : k = c.k
    · simp [hk]
    · simp [hk, h.mem]
  | false =>
    refine ⟨?_, fun k v => ?_⟩
    · rw [if_neg (by simp), List.map_append]
      refine nodup_snoc (map_filter_nodup h.nd _) ?_
      simp
    · by_cases hk : k = c.k
      · subst hk
        simp [eq_comm]
      · simp [hk, h.mem]
theorem IsP.done {all : List Pa} {M : Mp} (h : IsP all M) (cs : List Chg) : IsP (doneP all cs) (takeM M cs) := by
  induction cs generalizing all M with
  | nil => exact h
  | cons c r ih => exact ih (h.step c)
theorem doneP_snoc (all : List Pa) (cs : List Chg) (c : Chg) : doneP all (cs ++ [c]) = stepP (doneP all cs) c := by simp [doneP]
theorem takeM_snoc (M : Mp) (cs : List Chg) (c : Chg) : takeM M (cs ++ [c]) = stepM (takeM M cs) c := by simp [takeM]
theorem takeM_append (M : Mp) (cs ds : List Chg) : takeM M (cs ++ ds) = takeM (takeM M cs) ds := by simp [takeM]
theorem doneP_append (all : List Pa) (cs ds : List Chg) : doneP all (cs ++ ds) = doneP (doneP all cs) ds := by simp [doneP]
/-- two lists without doubles that hold the same are of one length -/
theorem len_of_same {α : Type} [DecidableEq α] : ∀ {l m : List α}, l.Nodup → m.Nodup → (∀ x, x ∈ l ↔ x ∈ m) → l.length = m.length := by
  intro l
  induction l with
  | nil =>
    intro m _ _ h
    cases m with
    | nil => rfl
    | cons y r => exact absurd ((h y).2 (by simp)) (by simp)
  | cons x r ih =>
    intro m hl hm h
    have hx : x ∈ m := (h x).1 (by simp)
    rw [List.nodup_cons] at hl
    have := ih hl.2 (List.Nodup.erase x hm) (fun y => by
      rw [List.Nodup.mem_erase_iff hm]
      constructor
      · intro hy
        exact ⟨fun e => hl.1 (e ▸ hy), (h y).1 (by simp [hy])⟩
      · intro ⟨h1, h2⟩
        have := (h y).2 h2
        rw [List.mem_cons] at this
        rcases this with e | e
        · exact absurd e h1
        · exact e)
    rw [List.length_erase_of_mem hx] at this
    have hp : 0 < m.length := List.length_pos_of_mem hx
    rw [List.length_cons]
    omega
theorem IsP.keys {all : List Pa} {M : Mp} (h : IsP all M) (k : List Nat) : k ∈ all.map (·.1) ↔ (M k).isSome = true := by
  rw [List.mem_map]
  constructor
  · rintro ⟨⟨a, v⟩, hp, rfl⟩
    rw [(h.mem a v).1 hp]; rfl
  · intro hs
    obtain ⟨v, hv⟩ := Option.isSome_iff_exists.1 hs
    exact ⟨(k, v), (h.mem k v).2 hv, rfl⟩
theorem IsP.len {all : List Pa} {M : Mp} (h : IsP all M) {ks : List (List Nat)} (hn : ks.Nodup) (hk : ∀ k, k ∈ ks ↔ (M k).isSome = true) : ks.length = all.length := by
  have := len_of_same hn h.nd (fun k => by rw [hk, h.keys])
  rwa [List.length_map] at this
/-- those that begin so -/
theorem IsP.lenF {all : List Pa} {M : Mp} (h : IsP all M) {ks : List (List Nat)} (hn : ks.Nodup) (p : List Nat → Bool) (hk : ∀ k, k ∈ ks ↔ (M k).isSome = true ∧ p k = true) : ks.length = (all.filter (fun q => p q.1)).length := by
  have := len_of_same hn (map_filter_nodup h.nd (fun q => p q.1)) (fun k => by
    rw [hk, List.mem_map]
    constructor
    · rintro ⟨h1, h2⟩
      obtain ⟨v, hv⟩ := Option.isSome_iff_exists.1 h1
      exact ⟨(k, v), List.mem_filter.2 ⟨(h.mem k v).2 hv, h2⟩, rfl⟩
    · rintro ⟨⟨a, v⟩, hp, rfl⟩
      have := List.mem_filter.1 hp
      exact ⟨by rw [(h.mem a v).1 this.1]; rfl, this.2⟩)
  rwa [List.length_map] at this

/-- the records of changes, from the i-th on -/
def valB (c : Chg) : List Nat := if c.g then [0] else 1 :: c.v
def recsFrom : Nat → List Chg → List Pr
  | _, [] => []
  | i, c :: r => (2 * i, c.k) :: (2 * i + 1, valB c) :: recsFrom (i + 1) r
def encC (cs : List Chg) : List Pr := recsFrom 0 cs
theorem recsFrom_len (i : Nat) (cs : List Chg) : (recsFrom i cs).length = 2 * cs.length := by
  induction cs generalizing i with
  | nil => rfl
  | cons c r ih => simp only [recsFrom, List.length_cons, ih]; omega
theorem recsFrom_snoc (i : Nat) (cs : List Chg) (c : Chg) : recsFrom i (cs ++ [c]) = recsFrom i cs ++ [(2 * (i + cs.length), c.k), (2 * (i + cs.length) + 1, valB c)] := by
  induction cs generalizing i with
  | nil => rfl
  | cons d r ih =>
    simp only [List.cons_append, recsFrom, ih, List.length_cons]
    rw [show i + 1 + r.length = i + (r.length + 1) by omega]
theorem encC_snoc (cs : List Chg) (c : Chg) : encC (cs ++ [c]) = encC cs ++ [(2 * cs.length, c.k), (2 * cs.length + 1, valB c)] := by
  unfold encC
  rw [recsFrom_snoc, Nat.zero_add]
theorem recsFrom_err : ∀ (cs : List Chg) (i : Nat) (p : Option Nat), (∀ q, p = some q → q < 2 * i) → (∀ c ∈ cs, c.k.length ≤ 65536 ∧ c.v.length < 65536) → encErr p (recsFrom i cs) = 0 := by
  intro cs
  induction cs with
  | nil => intro i p _ _; rfl
  | cons c r ih =>
    intro i p hp hc
    have h1 := hc c (by simp)
    have hv : (valB c).length ≤ 65536 := by
      unfold valB; split
      · simp
      · simp; omega
    have e1 : p.any (fun q => decide (2 * i ≤ q)) = false := by
      cases p with
      | none => rfl
      | some q => have := hp q rfl; simp; omega
    rw [recsFrom, encErr, if_neg (by simp [e1]), if_neg (by simp; omega), encErr, if_neg (by simp), if_neg (by simp; omega)]
    exact ih (i + 1) _ (fun q hq => by simp at hq; omega) (fun d hd => hc d (by simp [hd]))
theorem encC_ok {cs : List Chg} (hn : cs.length ≤ 128) (hc : ∀ c ∈ cs, c.k.length ≤ 65536 ∧ c.v.length < 65536) : encE (encC cs) = 0 := by
  unfold encE encC
  rw [recsFrom_len, if_neg (by omega)]
  exact recsFrom_err cs 0 none (fun q h => by cases h) hc
theorem recsFrom_bytes : ∀ (cs : List Chg) (i K V : Nat), (∀ c ∈ cs, c.k.length ≤ K ∧ c.v.length ≤ V) → (encAll (recsFrom i cs)).length ≤ cs.length * (K + V + 37) := by
  intro cs
  induction cs with
  | nil => intro i K V _; simp [recsFrom, encAll]
  | cons c r ih =>
    intro i K V hc
    have h1 := hc c (by simp)
    have hv : (valB c).length ≤ V + 1 := by
      unfold valB; split
      · simp
      · simp; omega
    have := ih (i + 1) K V (fun d hd => hc d (by simp [hd]))
    have s1 := (size_len_bd (2 * i)).2
    have s2 := (size_len_bd c.k.length).2
    have s3 := (size_len_bd (2 * i + 1)).2
    have s4 := (size_len_bd (valB c).length).2
    simp only [recsFrom, encAll, encR, List.flatMap_cons, List.length_append, List.length_cons] at this ⊢
    rw [Nat.add_mul, Nat.one_mul]
    omega
theorem encC_bytes (cs : List Chg) (K V : Nat) (hc : ∀ c ∈ cs, c.k.length ≤ K ∧ c.v.length ≤ V) : (encAll (encC cs)).length ≤ cs.length * (K + V + 37) := recsFrom_bytes cs 0 K V hc

theorem recsFrom_lt : ∀ (cs : List Chg) (i : Nat), (∀ c ∈ cs, (∀ d ∈ c.k, d < 256) ∧ ∀ d ∈ c.v, d < 256) → ∀ d ∈ encAll (recsFrom i cs), d < 256 := by
  intro cs
  induction cs with
  | nil => intro i _ d hd; simp [recsFrom, encAll] at hd
  | cons c r ih =>
    intro i h d hd
    have h1 := h c (by simp)
    simp only [recsFrom, encAll, encR, List.flatMap_cons, List.mem_append] at hd
    rcases hd with ((hd | hd) | hd) | ((hd | hd) | hd) | hd
    · exact size_lt _ d hd
    · exact size_lt _ d hd
    · exact h1.1 d hd
    · exact size_lt _ d hd
    · exact size_lt _ d hd
    · unfold valB at hd
      split at hd
      · simp at hd; omega
      · simp only [List.mem_cons] at hd
        rcases hd with rfl | hd
        · decide
        · exact h1.2 d hd
    · exact ih (i + 1) (fun c hc => h c (by simp [hc])) d hd
theorem encC_lt (cs : List Chg) (h : ∀ c ∈ cs, (∀ d ∈ c.k, d < 256) ∧ ∀ d ∈ c.v, d < 256) : ∀ d ∈ encAll (encC cs), d < 256 := recsFrom_lt cs 0 h
/-- are two records a change? -/
def pairBad (i : Nat) (k v : Pr) : Bool := decide (k.1 ≠ i) || decide (v.1 ≠ i + 1) || decide (v.2.length = 0) || decide (1 < v.2.getD 0 0) || decide (v.2.getD 0 0 = 0 ∧ 1 < v.2.length)
theorem pairBad_iff {i : Nat} {k v : Pr} : pairBad i k v = true ↔ (k.1 ≠ i ∨ v.1 ≠ i + 1 ∨ v.2.length = 0 ∨ 1 < v.2.getD 0 0 ∨ (v.2.getD 0 0 = 0 ∧ 1 < v.2.length)) := by
  unfold pairBad
  simp only [Bool.or_eq_true, decide_eq_true_eq, or_assoc]
theorem pairBad_no {i : Nat} {k v : Pr} (h1 : k.1 = i) (h2 : v.1 = i + 1) (h3 : v.2.length ≠ 0) (h4 : ¬ 1 < v.2.getD 0 0) (h5 : ¬ (v.2.getD 0 0 = 0 ∧ 1 < v.2.length)) : pairBad i k v = false := by
  rw [Bool.eq_false_iff]
  intro h
  rcases pairBad_iff.1 h with h | h | h | h | h
  · exact h h1
  · exact h h2
  · exact h3 h
  · exact h4 h
  · exact h5 h
def pairC (k v : Pr) : Chg := ⟨k.2, v.2.drop 1, decide (v.2.getD 0 0 = 0)⟩
def decC : Nat → List Pr → Option (List Chg)
  | _, [] => some []
  | _, [_] => none
  | i, k :: v :: r => if pairBad i k v = true then none else (decC (i + 2) r).map (pairC k v :: ·)
/-- the changes of bytes -/
def decB (bs : List Nat) : Option (List Chg) := if (decS bs).2 ≠ 0 ∨ (decS bs).1.length % 2 ≠ 0 then none else decC 0 (decS bs).1
theorem decC_step {rs : List Pr} {i : Nat} {k v : Pr} (hk : rs[i]? = some k) (hv : rs[i + 1]? = some v) : decC i (rs.drop i) = if pairBad i k v = true then none else (decC (i + 2) (rs.drop (i + 2))).map (pairC k v :: ·) := by
  have e1 : rs.drop i = k :: rs.drop (i + 1) := by
    obtain ⟨h, rfl⟩ := List.getElem?_eq_some_iff.1 hk
    exact List.drop_eq_getElem_cons h
  have e2 : rs.drop (i + 1) = v :: rs.drop (i + 2) := by
    obtain ⟨h, rfl⟩ := List.getElem?_eq_some_iff.1 hv
    exact List.drop_eq_getElem_cons h
  rw [e1, e2, decC]
/-- what bodies, one behind the other, make of a map -/
def openS : Mp → List (List Nat) → Option Mp
  | M, [] => some M
  | M, b :: r => match decB b with
    | none => none
    | some cs => openS (takeM M cs) r
def writS : List Pa → List (List Nat) → Option (List Pa)
  | all, [] => some all
  | all, b :: r => match decB b with
    | none => none
    | some cs => writS (doneP all cs) r
theorem open_writ : ∀ (bs : List (List Nat)) (all : List Pa) (M : Mp), IsP all M → (openS M bs = none ∧ writS all bs = none) ∨ ∃ M' all', openS M bs = some M' ∧ writS all bs = some all' ∧ IsP all' M' := by
  intro bs
  induction bs with
  | nil => intro all M h; exact .inr ⟨M, all, rfl, rfl, h⟩
  | cons b r ih =>
    intro all M h
    unfold openS writS
    cases decB b with
    | none => exact .inl ⟨rfl, rfl⟩
    | some cs => exact ih _ _ (h.done cs)
theorem decC_len : ∀ (n i : Nat) (rs : List Pr) (cs : List Chg), rs.length ≤ n → decC i rs = some cs → 2 * cs.length = rs.length := by
  intro n
  induction n with
  | zero =>
    intro i rs cs hn h
    cases rs with
    | nil => simp [decC] at h; subst h; rfl
    | cons a r => simp at hn
  | succ n ih =>
    intro i rs cs hn h
    match rs, h with
    | [], h => simp [decC] at h; subst h; rfl
    | [a], h => simp [decC] at h
    | k :: v :: r, h =>
      rw [decC] at h
      split at h
      · cases h
      · obtain ⟨ds, hd, rfl⟩ := Option.map_eq_some_iff.1 h
        have := ih (i + 2) r ds (by simp at hn; omega) hd
        simp; omega
end Go.Proofs.YtnophelfpoldfaaGreatDoor
