/- The walks of tlv.Read and of the reference's Read. -/
import Derived.Laws.Bits64b
import Derived.OwnWalk
import Derived.Test.YtnbmpgballopeaaDoorZRdP
namespace Go.Proofs.YtnbmpgballopeaaDoor
open Go.RowKit
def RdV3 (p : Nat × Nat × Nat) : Value := .tuple #[.int .u64 (p.1 : Int), .int .i64 (p.2.1 : Int), .int .i64 (p.2.2 : Int)]
theorem or256 {x c : Nat} (hx : x * 256 < 18446744073709551616) (hc : c < 256) : bits .or .u64 ((x : Int) * 256) (c : Int) = ((x * 256 + c : Nat) : Int) := by
 have h := bits_or_u64_nat (x * 256) c hx (by omega)
 have e : ((x : Int) * 256) = ((x * 256 : Nat) : Int) := by omega
 rw [e, h]
 have := Nat.two_pow_add_eq_or_of_lt (i := 8) (b := c) (by omega) x
 rw [Nat.mul_comm x 256]
 exact congrArg _ this.symm
theorem beVal_step {t : List Nat} {k : Nat} (h : k < t.length) : beVal (t.take (k + 1)) = beVal (t.take k) * 256 + t.getD k 0 := by
 rw [List.take_add_one, List.getElem?_eq_getElem h, Option.toList_some, beVal_snoc]
 simp [List.getElem?_eq_getElem h]
theorem beVal_take_lt {t : List Nat} (h : ∀ d ∈ t, d < 256) {k : Nat} (hk : k ≤ 7) : beVal (t.take k) * 256 < 18446744073709551616 := by
 have h1 := beVal_lt (t.take k) (fun d hd => h d (List.mem_of_mem_take hd))
 have h2 : 256 ^ (t.take k).length ≤ 256 ^ 7 := Nat.pow_le_pow_right (by omega) (by simp; omega)
 omega
theorem cell_tail {w : World} {b off : Nat} {n : Nat} {h : Nat} {t : List Nat} (hl : (h :: t).length = n) (hc : ∀ j, j < n → w.cell? ⟨b, off + j, none⟩ = some (.int .u8 (((h :: t).getD j 0 : Nat) : Int))) :
  w.cell? ⟨b, off, none⟩ = some (.int .u8 (h : Int)) ∧ ∀ k, k < t.length → w.cell? ⟨b, off + 1 + k, none⟩ = some (.int .u8 ((t.getD k 0 : Nat) : Int)) := by
 refine ⟨by have := hc 0 (by rw [← hl]; simp); simpa using this, fun k hk => ?_⟩
 have := hc (k + 1) (by rw [← hl]; simp; omega)
 rw [show off + 1 + k = off + (k + 1) by omega]
 simpa using this
theorem nbeq {x y : Nat} (h : x ≠ y) : ((x : Int) == (y : Int)) = false := by simp; omega
theorem ybeq {x y : Nat} (h : x = y) : ((x : Int) == (y : Int)) = true := by simp; omega
theorem getD_ltM {xs : List Nat} {M : Nat} (h : ∀ d ∈ xs, d < M) (hM : 0 < M) (k : Nat) : xs.getD k 0 < M := by
 rw [List.getD_eq_getElem?_getD]
 cases hk : xs[k]? with
 | none => simpa using hM
 | some d => simpa using h d (List.mem_of_getElem? hk)
theorem readS_one {h : Nat} (t : List Nat) (hh : folN h = 0) : readS (h :: t) = (h, 1, 0) := by simp [readS, hh]
theorem readS_short {h : Nat} {t : List Nat} (hh : folN h ≠ 0) (hl : t.length < folN h) : readS (h :: t) = (0, 0, 20) := by simp [readS, hh, hl]
theorem readS_form {h : Nat} {t : List Nat} (hh : folN h ≠ 0) (hl : ¬ t.length < folN h) (hv : beVal (t.take (folN h)) < folL h) : readS (h :: t) = (0, 0, 21) := by simp [readS, hh, hl, hv]
theorem readS_ok {h : Nat} {t : List Nat} (hh : folN h ≠ 0) (hl : ¬ t.length < folN h) (hv : ¬ beVal (t.take (folN h)) < folL h) : readS (h :: t) = (beVal (t.take (folN h)), folN h + 1, 0) := by simp [readS, hh, hl, hv]
set_option maxHeartbeats 400000 in
theorem read_nil (a : Option Addr) (cap : Nat) (w : World) : Calls Tryd.prog 49 #[.slice a 0 cap] w fun e w' => e = .returned (RdV3 (readS [])) ∧ w = w' := by
 go_enter Tryd.func49, Tryd.ntmps49
 go_wp2
 go_ret3
 exact ⟨rfl, rfl⟩
set_option maxHeartbeats 400000 in
theorem read_one (b off n cap h : Nat) (t : List Nat) (hh : folN h = 0) (hc : h < 256) (hn : 0 < n) (w : World) (h0 : w.cell? ⟨b, off, none⟩ = some (.int .u8 (h : Int))) : Calls Tryd.prog 49 #[.slice (some ⟨b, off, none⟩) n cap] w fun e w' => e = .returned (RdV3 (readS (h :: t))) ∧ w = w' := by
 have fin := hid (readS_one t hh)
 have t0 : ((n : Int) == 0) = false := by simp; omega
 have hn0 : 0 < n := by omega
 have t1 : ((h : Int) == 253) = false := nbeq (by rintro rfl; exact absurd hh (by decide))
 have t2 : ((h : Int) == 254) = false := nbeq (by rintro rfl; exact absurd hh (by decide))
 have t3 : ((h : Int) == 255) = false := nbeq (by rintro rfl; exact absurd hh (by decide))
 clear hh
 go_enter Tryd.func49, Tryd.ntmps49
 go_wp2
 go_ret3
 exact ⟨by rw [fin.out]; rfl, rfl⟩
set_option maxHeartbeats 1000000 in
theorem read_2 (b off n cap : Nat) (t : List Nat) (hl : t.length + 1 = n) (ht : ∀ d ∈ t, d < 256) (hn : n ≤ 140737488355328) (w : World) (h0 : w.cell? ⟨b, off, none⟩ = some (.int .u8 (253 : Int))) (hc : ∀ k, k < t.length → w.cell? ⟨b, off + 1 + k, none⟩ = some (.int .u8 ((t.getD k 0 : Nat) : Int))) (hcap : n ≤ cap) :
  Calls Tryd.prog 49 #[.slice (some ⟨b, off, none⟩) n cap] w fun e w' => e = .returned (RdV3 (readS (253 :: t))) ∧ w = w' := by
 have t0 : ((n : Int) == 0) = false := by simp; omega
 have hn0 : 0 < n := by omega
 by_cases hs : t.length < 2
 ·have fin := hid (readS_short (h := 253) (by decide) hs)
  have t1 : decide ((n : Int) ≤ 2) = true := by rw [decide_eq_true_eq]; omega
  clear hs hl hc
  go_enter Tryd.func49, Tryd.ntmps49
  go_wp2
  go_ret3
  exact ⟨by rw [fin.out]; rfl, rfl⟩
 ·have t1 : decide ((n : Int) ≤ 2) = false := by rw [decide_eq_false_iff_not]; omega
  have hn2 : 2 < n := by omega
  clear hn0
  have HS := hid hs
  have HL := hid hl
  clear hs hl
  go_enter Tryd.func49, Tryd.ntmps49
  go_wp2
  go_loopw [7, 35] (fun x0 i0 wr => ∃ k : Nat, k ≤ 2 ∧ i0 = .int .i64 k ∧ x0 = .int .u64 ((beVal (t.take k) : Nat) : Int) ∧ wr = w) (fun _ i0 _ => 2 - (intOf i0).toNat)
  case atStart => exact ⟨0, by omega, rfl, rfl, rfl⟩
  case round =>
   obtain ⟨k, hk, rfl, rfl, rfl⟩ := hrel
   by_cases hlt : k < 2
   ·have hkt : k < t.length := by have := HS.out; omega
    have st := hid (beVal_step hkt)
    have hd := getD_ltM ht (by decide) k
    have hor := or256 (beVal_take_lt ht (k := k) (by omega)) hd
    have hcx := hc k hkt
    have bx := beVal_take_lt ht (k := k) (by omega)
    generalize t.getD k 0 = d at *
    generalize beVal (t.take k) = x at *
    clear hc h0 t0 t1
    go_wp2
    go_roundw
    case rel => exact ⟨k + 1, by omega, by go_num, by rw [st.out]; go_num, trivial⟩
    case measure => simp [intOf]; omega
   ·obtain rfl : k = 2 := by omega
    by_cases hv : beVal (t.take 2) < 253
    ·have fin := hid (readS_form (h := 253) (by decide) HS.out hv)
     have t2 : decide ((beVal (t.take 2) : Int) < 253) = true := by rw [decide_eq_true_eq]; omega
     generalize beVal (t.take 2) = x at *
     clear hc
     go_wp2
     go_ret3
     exact ⟨by rw [fin.out]; rfl, rfl⟩
    ·have fin := hid (readS_ok (h := 253) (by decide) HS.out hv)
     have t2 : decide ((beVal (t.take 2) : Int) < 253) = false := by rw [decide_eq_false_iff_not]; omega
     have e3 : folN 253 = 2 := by decide
     rw [e3] at fin
     generalize beVal (t.take 2) = x at *
     clear hc hv
     go_wp2
     go_ret3
     exact ⟨by rw [fin.out]; rfl, rfl⟩
set_option maxHeartbeats 1000000 in
theorem read_4 (b off n cap : Nat) (t : List Nat) (hl : t.length + 1 = n) (ht : ∀ d ∈ t, d < 256) (hn : n ≤ 140737488355328) (w : World) (h0 : w.cell? ⟨b, off, none⟩ = some (.int .u8 (254 : Int))) (hc : ∀ k, k < t.length → w.cell? ⟨b, off + 1 + k, none⟩ = some (.int .u8 ((t.getD k 0 : Nat) : Int))) (hcap : n ≤ cap) :
  Calls Tryd.prog 49 #[.slice (some ⟨b, off, none⟩) n cap] w fun e w' => e = .returned (RdV3 (readS (254 :: t))) ∧ w = w' := by
 have t0 : ((n : Int) == 0) = false := by simp; omega
 have hn0 : 0 < n := by omega
 by_cases hs : t.length < 4
 ·have fin := hid (readS_short (h := 254) (by decide) hs)
  have t1 : decide ((n : Int) ≤ 4) = true := by rw [decide_eq_true_eq]; omega
  clear hs hl hc
  go_enter Tryd.func49, Tryd.ntmps49
  go_wp2
  go_ret3
  exact ⟨by rw [fin.out]; rfl, rfl⟩
 ·have t1 : decide ((n : Int) ≤ 4) = false := by rw [decide_eq_false_iff_not]; omega
  have hn2 : 4 < n := by omega
  clear hn0
  have HS := hid hs
  have HL := hid hl
  clear hs hl
  go_enter Tryd.func49, Tryd.ntmps49
  go_wp2
  go_loopw [7, 35] (fun x0 i0 wr => ∃ k : Nat, k ≤ 4 ∧ i0 = .int .i64 k ∧ x0 = .int .u64 ((beVal (t.take k) : Nat) : Int) ∧ wr = w) (fun _ i0 _ => 4 - (intOf i0).toNat)
  case atStart => exact ⟨0, by omega, rfl, rfl, rfl⟩
  case round =>
   obtain ⟨k, hk, rfl, rfl, rfl⟩ := hrel
   by_cases hlt : k < 4
   ·have hkt : k < t.length := by have := HS.out; omega
    have st := hid (beVal_step hkt)
    have hd := getD_ltM ht (by decide) k
    have hor := or256 (beVal_take_lt ht (k := k) (by omega)) hd
    have hcx := hc k hkt
    have bx := beVal_take_lt ht (k := k) (by omega)
    generalize t.getD k 0 = d at *
    generalize beVal (t.take k) = x at *
    clear hc h0 t0 t1
    go_wp2
    go_roundw
    case rel => exact ⟨k + 1, by omega, by go_num, by rw [st.out]; go_num, trivial⟩
    case measure => simp [intOf]; omega
   ·obtain rfl : k = 4 := by omega
    by_cases hv : beVal (t.take 4) < 65536
    ·have fin := hid (readS_form (h := 254) (by decide) HS.out hv)
     have t2 : decide ((beVal (t.take 4) : Int) < 65536) = true := by rw [decide_eq_true_eq]; omega
     generalize beVal (t.take 4) = x at *
     clear hc
     go_wp2
     go_ret3
     exact ⟨by rw [fin.out]; rfl, rfl⟩
    ·have fin := hid (readS_ok (h := 254) (by decide) HS.out hv)
     have t2 : decide ((beVal (t.take 4) : Int) < 65536) = false := by rw [decide_eq_false_iff_not]; omega
     have e3 : folN 254 = 4 := by decide
     rw [e3] at fin
     generalize beVal (t.take 4) = x at *
     clear hc hv
     go_wp2
     go_ret3
     exact ⟨by rw [fin.out]; rfl, rfl⟩
set_option maxHeartbeats 1000000 in
theorem read_8 (b off n cap : Nat) (t : List Nat) (hl : t.length + 1 = n) (ht : ∀ d ∈ t, d < 256) (hn : n ≤ 140737488355328) (w : World) (h0 : w.cell? ⟨b, off, none⟩ = some (.int .u8 (255 : Int))) (hc : ∀ k, k < t.length → w.cell? ⟨b, off + 1 + k, none⟩ = some (.int .u8 ((t.getD k 0 : Nat) : Int))) (hcap : n ≤ cap) :
  Calls Tryd.prog 49 #[.slice (some ⟨b, off, none⟩) n cap] w fun e w' => e = .returned (RdV3 (readS (255 :: t))) ∧ w = w' := by
 have t0 : ((n : Int) == 0) = false := by simp; omega
 have hn0 : 0 < n := by omega
 by_cases hs : t.length < 8
 ·have fin := hid (readS_short (h := 255) (by decide) hs)
  have t1 : decide ((n : Int) ≤ 8) = true := by rw [decide_eq_true_eq]; omega
  clear hs hl hc
  go_enter Tryd.func49, Tryd.ntmps49
  go_wp2
  go_ret3
  exact ⟨by rw [fin.out]; rfl, rfl⟩
 ·have t1 : decide ((n : Int) ≤ 8) = false := by rw [decide_eq_false_iff_not]; omega
  have hn2 : 8 < n := by omega
  clear hn0
  have HS := hid hs
  have HL := hid hl
  clear hs hl
  go_enter Tryd.func49, Tryd.ntmps49
  go_wp2
  go_loopw [7, 35] (fun x0 i0 wr => ∃ k : Nat, k ≤ 8 ∧ i0 = .int .i64 k ∧ x0 = .int .u64 ((beVal (t.take k) : Nat) : Int) ∧ wr = w) (fun _ i0 _ => 8 - (intOf i0).toNat)
  case atStart => exact ⟨0, by omega, rfl, rfl, rfl⟩
  case round =>
   obtain ⟨k, hk, rfl, rfl, rfl⟩ := hrel
   by_cases hlt : k < 8
   ·have hkt : k < t.length := by have := HS.out; omega
    have st := hid (beVal_step hkt)
    have hd := getD_ltM ht (by decide) k
    have hor := or256 (beVal_take_lt ht (k := k) (by omega)) hd
    have hcx := hc k hkt
    have bx := beVal_take_lt ht (k := k) (by omega)
    generalize t.getD k 0 = d at *
    generalize beVal (t.take k) = x at *
    clear hc h0 t0 t1
    go_wp2
    go_roundw
    case rel => exact ⟨k + 1, by omega, by go_num, by rw [st.out]; go_num, trivial⟩
    case measure => simp [intOf]; omega
   ·obtain rfl : k = 8 := by omega
    by_cases hv : beVal (t.take 8) < 4294967296
    ·have fin := hid (readS_form (h := 255) (by decide) HS.out hv)
     have t2 : decide ((beVal (t.take 8) : Int) < 4294967296) = true := by rw [decide_eq_true_eq]; omega
     generalize beVal (t.take 8) = x at *
     clear hc
     go_wp2
     go_ret3
     exact ⟨by rw [fin.out]; rfl, rfl⟩
    ·have fin := hid (readS_ok (h := 255) (by decide) HS.out hv)
     have t2 : decide ((beVal (t.take 8) : Int) < 4294967296) = false := by rw [decide_eq_false_iff_not]; omega
     have e3 : folN 255 = 8 := by decide
     rw [e3] at fin
     generalize beVal (t.take 8) = x at *
     clear hc hv
     go_wp2
     go_ret3
     exact ⟨by rw [fin.out]; rfl, rfl⟩
theorem read_walk (a : Option Addr) (n cap : Nat) (xs : List Nat) (hx : ∀ d ∈ xs, d < 256) (hn : n ≤ 140737488355328) (w : World) (hS : Sl .u8 w a n cap xs) :
  Calls Tryd.prog 49 #[.slice a n cap] w fun e w' => e = .returned (RdV3 (readS xs)) ∧ w = w' := by
 have hl := hS.len
 have hcap := hS.2.1
 obtain ⟨b, off, ha, hc⟩ := hS.opened
 cases xs with
 | nil =>
  obtain rfl : n = 0 := by simpa using hl.symm
  exact read_nil a cap w
 | cons h t =>
  obtain rfl := ha (by rw [← hl]; simp)
  obtain ⟨h0, ht⟩ := cell_tail hl hc
  have hh := hx h (by simp)
  have hx' : ∀ d ∈ t, d < 256 := fun d hd => hx d (by simp [hd])
  by_cases h1 : h = 253
  ·subst h1; exact read_2 b off n cap t hl hx' hn w h0 ht hcap
  ·by_cases h2 : h = 254
   ·subst h2; exact read_4 b off n cap t hl hx' hn w h0 ht hcap
   ·by_cases h3 : h = 255
    ·subst h3; exact read_8 b off n cap t hl hx' hn w h0 ht hcap
    ·exact read_one b off n cap h t (by simp [folN, h1, h2, h3]) hh (by rw [← hl]; simp) w h0
end Go.Proofs.YtnbmpgballopeaaDoor
/- The reference's number of bytes. -/
namespace Go.Proofs.YtnbmpgballopeaaDoor
open Go.RowKit
set_option maxRecDepth 100000 in
set_option maxHeartbeats 2000000 in
theorem rnumber_walk (a : Option Addr) (n c : Nat) (t : List Nat) (h8 : n ≤ 8) (hb : ∀ d ∈ t, d < 256) (w : World) (h : Sl .u8 w a n c t) :
  Calls Tryd.prog 30 #[.slice a n c] w fun e w' => e = .returned (.int .u64 ((beVal t : Nat) : Int)) ∧ w' = w := by
 have YL := hid h.len
 have YB := hid hb
 obtain ⟨b, off, ha, hc⟩ := h.opened
 clear h hb
 go_enter Tryd.func30, Tryd.ntmps30
 go_wp2_with (fail)
 go_loopw [3, 8] (fun x0 i0 wr => ∃ k : Nat, k ≤ n ∧ i0 = .int .i64 k ∧ x0 = .int .u64 ((beVal (t.take k) : Nat) : Int) ∧ wr = w) (fun _ i0 _ => n - (intOf i0).toNat)
 case atStart => exact ⟨0, by omega, rfl, rfl, rfl⟩
 case round =>
  obtain ⟨k, hk, rfl, rfl, rfl⟩ := hrel
  by_cases hlt : k < n
  ·have u1 : decide ((k : Int) < (n : Int)) = true := decide_eq_true (by omega)
   have u2 : decide (k < n) = true := decide_eq_true (by omega)
   have hkt : k < t.length := by have := YL.out; omega
   have st := hid (beVal_step hkt)
   have hd := getD_ltM YB.out (by decide) k
   have bx := beVal_take_lt YB.out (k := k) (by omega)
   have hcx := hc k hlt
   have kn : k < 8 := by omega
   obtain rfl := ha (by omega)
   generalize t.getD k 0 = d at *
   generalize beVal (t.take k) = x at *
   clear hc ha
   go_wp2
   go_roundw
   case rel => exact ⟨k + 1, by omega, by go_num, by rw [st.out]; go_num, trivial⟩
   case measure => simp [intOf]; omega
  ·obtain rfl : k = n := by omega
   have u1 : decide ((k : Int) < (k : Int)) = false := decide_eq_false (by omega)
   have u2 : decide (k < k) = false := decide_eq_false (by omega)
   have e : t.take k = t := List.take_of_length_le (by rw [YL.out]; exact Nat.le_refl _)
   rw [e]
   generalize hx : beVal t = x at *
   clear hc ha
   go_wp2
   go_ret
   exact ⟨by rw [hx]; rfl, rfl⟩
end Go.Proofs.YtnbmpgballopeaaDoor
