/- The walk of the reference's Read. -/
import Derived.Maps.AppendAt
import Derived.Deep.AppendLies
import Derived.Deep.RegionHeld3
import Derived.Test.YtnbmpgballopeaaDoorZShaP
import Derived.Test.YtnbmpgballopeaaDoorZNbr
import Derived.Test.YtnbmpgballopeaaDoorZChf
namespace Go.Proofs.YtnbmpgballopeaaDoor
open Go.RowKit
def RdB (w : World) (xs : List Nat) (e : Ending) (w' : World) : Prop := e = .returned (RdV3 (readS xs)) ∧ Below w.heap.size w w'
theorem size_len (x : Nat) : (size x).length = if x < 253 then 1 else if x < 65536 then 3 else if x < 4294967296 then 5 else 9 := by
 unfold size
 repeat' split
 all_goals simp [be_length]
set_option maxHeartbeats 400000 in
theorem rread_nil (a : Option Addr) (cap : Nat) (w : World) : Calls Tryd.prog 51 #[.slice a 0 cap] w (RdB w []) := by
 go_enter Tryd.func51, Tryd.ntmps51
 go_wp2
 go_ret3
 exact ⟨rfl, Below.refl _ _⟩
set_option maxHeartbeats 400000 in
theorem rread_one (b off n cap h : Nat) (t : List Nat) (hh : folN h = 0) (hc : h < 256) (hn : 0 < n) (w : World) (h0 : w.cell? ⟨b, off, none⟩ = some (.int .u8 (h : Int))) : Calls Tryd.prog 51 #[.slice (some ⟨b, off, none⟩) n cap] w (RdB w (h :: t)) := by
 have fin := hid (readS_one t hh)
 have t0 : ((n : Int) == 0) = false := by simp; omega
 have hn0 : 0 < n := by omega
 have t4 : decide ((n : Int) < 1) = false := by rw [decide_eq_false_iff_not]; omega
 have t1 : ((h : Int) == 253) = false := nbeq (by rintro rfl; exact absurd hh (by decide))
 have t2 : ((h : Int) == 254) = false := nbeq (by rintro rfl; exact absurd hh (by decide))
 have t3 : ((h : Int) == 255) = false := nbeq (by rintro rfl; exact absurd hh (by decide))
 clear hh
 go_enter Tryd.func51, Tryd.ntmps51
 go_wp2
 go_ret3
 exact ⟨by rw [fin.out]; rfl, Below.refl _ _⟩
set_option maxHeartbeats 1000000 in
theorem rread_2 (b off n cap : Nat) (t : List Nat) (hl : t.length + 1 = n) (ht : ∀ d ∈ t, d < 256) (hn : n ≤ 140737488355328) (w : World) (h0 : w.cell? ⟨b, off, none⟩ = some (.int .u8 (253 : Int))) (hc : ∀ k, k < t.length → w.cell? ⟨b, off + 1 + k, none⟩ = some (.int .u8 ((t.getD k 0 : Nat) : Int))) :
  Calls Tryd.prog 51 #[.slice (some ⟨b, off, none⟩) n cap] w (RdB w (253 :: t)) := by
 have t0 : ((n : Int) == 0) = false := by simp; omega
 have hn0 : 0 < n := by omega
 by_cases hs : t.length < 2
 ·have fin := hid (readS_short (h := 253) (by decide) hs)
  have t1 : decide ((n : Int) < 3) = true := by rw [decide_eq_true_eq]; omega
  clear hs hl hc
  go_enter Tryd.func51, Tryd.ntmps51
  go_wp2
  go_ret3
  exact ⟨by rw [fin.out]; rfl, Below.refl _ _⟩
 ·have t1 : decide ((n : Int) < 3) = false := by rw [decide_eq_false_iff_not]; omega
  have hn2 : 2 < n := by omega
  clear hn0
  have HS := hid hs
  have HL := hid hl
  clear hs hl
  go_enter Tryd.func51, Tryd.ntmps51
  go_wp2
  go_loopw [6, 7] (fun x0 i0 wr => ∃ k : Nat, k ≤ 2 ∧ i0 = .int .i64 ((1 + k : Nat) : Int) ∧ x0 = .int .u64 ((beVal (t.take k) : Nat) : Int) ∧ wr = w) (fun _ i0 _ => 3 - (intOf i0).toNat)
  case atStart => exact ⟨0, by omega, rfl, rfl, rfl⟩
  case round =>
   obtain ⟨k, hk, rfl, rfl, rfl⟩ := hrel
   by_cases hlt : k < 2
   ·have hkt : k < t.length := by have := HS.out; omega
    have st := hid (beVal_step hkt)
    have hd := getD_ltM ht (by decide) k
    have hcx := hc k hkt
    rw [Nat.add_assoc] at hcx
    have bx := beVal_take_lt ht (k := k) (by omega)
    generalize t.getD k 0 = d at *
    generalize beVal (t.take k) = x at *
    clear hc h0 t0 t1
    go_wp2
    go_roundw
    case rel => exact ⟨k + 1, by omega, by go_num, by rw [st.out]; go_num, trivial⟩
    case measure => simp [intOf]; omega
   ·obtain rfl : k = 2 := by omega
    have hb := beVal_lt (t.take 2) (fun d hd => ht d (List.mem_of_mem_take hd))
    have hlen : (t.take 2).length = 2 := by have := HS.out; simp; omega
    rw [hlen] at hb
    have hx64 : beVal (t.take 2) < 18446744073709551616 := by omega
    have sl := size_len (beVal (t.take 2))
    have e3 : folN 253 = 2 := by decide
    have hS := fun wx => hid (rsize_walk _ hx64 wx)
    by_cases hv : beVal (t.take 2) < 253
    ·have fin := hid (readS_form (h := 253) (by decide) HS.out hv)
     have t2 : (((size (beVal (t.take 2))).length : Int) == 3) = false := nbeq (by rw [sl]; (repeat' split) <;> omega)
     generalize beVal (t.take 2) = x at *
     clear hc sl hb hv
     go_wp2_with fail
     refine ((hS _).out).mono ?_
     rintro e w1 ⟨v, rfl, hown, b1⟩
     obtain ⟨a1, c1, rfl, s1⟩ := SlV.of_owns hown
     clear hown s1
     go_wp2
     go_ret3
     exact ⟨by rw [fin.out]; rfl, b1⟩
    ·have fin := hid (readS_ok (h := 253) (by decide) HS.out hv)
     rw [e3] at fin
     have t2 : (((size (beVal (t.take 2))).length : Int) == 3) = true := ybeq (by rw [sl]; (repeat' split) <;> omega)
     generalize beVal (t.take 2) = x at *
     clear hc sl hb hv
     go_wp2_with fail
     refine ((hS _).out).mono ?_
     rintro e w1 ⟨v, rfl, hown, b1⟩
     obtain ⟨a1, c1, rfl, s1⟩ := SlV.of_owns hown
     clear hown s1
     go_wp2
     go_ret3
     exact ⟨by rw [fin.out]; rfl, b1⟩
set_option maxHeartbeats 1000000 in
theorem rread_4 (b off n cap : Nat) (t : List Nat) (hl : t.length + 1 = n) (ht : ∀ d ∈ t, d < 256) (hn : n ≤ 140737488355328) (w : World) (h0 : w.cell? ⟨b, off, none⟩ = some (.int .u8 (254 : Int))) (hc : ∀ k, k < t.length → w.cell? ⟨b, off + 1 + k, none⟩ = some (.int .u8 ((t.getD k 0 : Nat) : Int))) :
  Calls Tryd.prog 51 #[.slice (some ⟨b, off, none⟩) n cap] w (RdB w (254 :: t)) := by
 have t0 : ((n : Int) == 0) = false := by simp; omega
 have hn0 : 0 < n := by omega
 by_cases hs : t.length < 4
 ·have fin := hid (readS_short (h := 254) (by decide) hs)
  have t1 : decide ((n : Int) < 5) = true := by rw [decide_eq_true_eq]; omega
  clear hs hl hc
  go_enter Tryd.func51, Tryd.ntmps51
  go_wp2
  go_ret3
  exact ⟨by rw [fin.out]; rfl, Below.refl _ _⟩
 ·have t1 : decide ((n : Int) < 5) = false := by rw [decide_eq_false_iff_not]; omega
  have hn2 : 4 < n := by omega
  clear hn0
  have HS := hid hs
  have HL := hid hl
  clear hs hl
  go_enter Tryd.func51, Tryd.ntmps51
  go_wp2
  go_loopw [6, 7] (fun x0 i0 wr => ∃ k : Nat, k ≤ 4 ∧ i0 = .int .i64 ((1 + k : Nat) : Int) ∧ x0 = .int .u64 ((beVal (t.take k) : Nat) : Int) ∧ wr = w) (fun _ i0 _ => 5 - (intOf i0).toNat)
  case atStart => exact ⟨0, by omega, rfl, rfl, rfl⟩
  case round =>
   obtain ⟨k, hk, rfl, rfl, rfl⟩ := hrel
   by_cases hlt : k < 4
   ·have hkt : k < t.length := by have := HS.out; omega
    have st := hid (beVal_step hkt)
    have hd := getD_ltM ht (by decide) k
    have hcx := hc k hkt
    rw [Nat.add_assoc] at hcx
    have bx := beVal_take_lt ht (k := k) (by omega)
    generalize t.getD k 0 = d at *
    generalize beVal (t.take k) = x at *
    clear hc h0 t0 t1
    go_wp2
    go_roundw
    case rel => exact ⟨k + 1, by omega, by go_num, by rw [st.out]; go_num, trivial⟩
    case measure => simp [intOf]; omega
   ·obtain rfl : k = 4 := by omega
    have hb := beVal_lt (t.take 4) (fun d hd => ht d (List.mem_of_mem_take hd))
    have hlen : (t.take 4).length = 4 := by have := HS.out; simp; omega
    rw [hlen] at hb
    have hx64 : beVal (t.take 4) < 18446744073709551616 := by omega
    have sl := size_len (beVal (t.take 4))
    have e3 : folN 254 = 4 := by decide
    have hS := fun wx => hid (rsize_walk _ hx64 wx)
    by_cases hv : beVal (t.take 4) < 65536
    ·have fin := hid (readS_form (h := 254) (by decide) HS.out hv)
     have t2 : (((size (beVal (t.take 4))).length : Int) == 5) = false := nbeq (by rw [sl]; (repeat' split) <;> omega)
     generalize beVal (t.take 4) = x at *
     clear hc sl hb hv
     go_wp2_with fail
     refine ((hS _).out).mono ?_
     rintro e w1 ⟨v, rfl, hown, b1⟩
     obtain ⟨a1, c1, rfl, s1⟩ := SlV.of_owns hown
     clear hown s1
     go_wp2
     go_ret3
     exact ⟨by rw [fin.out]; rfl, b1⟩
    ·have fin := hid (readS_ok (h := 254) (by decide) HS.out hv)
     rw [e3] at fin
     have t2 : (((size (beVal (t.take 4))).length : Int) == 5) = true := ybeq (by rw [sl]; (repeat' split) <;> omega)
     generalize beVal (t.take 4) = x at *
     clear hc sl hb hv
     go_wp2_with fail
     refine ((hS _).out).mono ?_
     rintro e w1 ⟨v, rfl, hown, b1⟩
     obtain ⟨a1, c1, rfl, s1⟩ := SlV.of_owns hown
     clear hown s1
     go_wp2
     go_ret3
     exact ⟨by rw [fin.out]; rfl, b1⟩
set_option maxHeartbeats 1000000 in
theorem rread_8 (b off n cap : Nat) (t : List Nat) (hl : t.length + 1 = n) (ht : ∀ d ∈ t, d < 256) (hn : n ≤ 140737488355328) (w : World) (h0 : w.cell? ⟨b, off, none⟩ = some (.int .u8 (255 : Int))) (hc : ∀ k, k < t.length → w.cell? ⟨b, off + 1 + k, none⟩ = some (.int .u8 ((t.getD k 0 : Nat) : Int))) :
  Calls Tryd.prog 51 #[.slice (some ⟨b, off, none⟩) n cap] w (RdB w (255 :: t)) := by
 have t0 : ((n : Int) == 0) = false := by simp; omega
 have hn0 : 0 < n := by omega
 by_cases hs : t.length < 8
 ·have fin := hid (readS_short (h := 255) (by decide) hs)
  have t1 : decide ((n : Int) < 9) = true := by rw [decide_eq_true_eq]; omega
  clear hs hl hc
  go_enter Tryd.func51, Tryd.ntmps51
  go_wp2
  go_ret3
  exact ⟨by rw [fin.out]; rfl, Below.refl _ _⟩
 ·have t1 : decide ((n : Int) < 9) = false := by rw [decide_eq_false_iff_not]; omega
  have hn2 : 8 < n := by omega
  clear hn0
  have HS := hid hs
  have HL := hid hl
  clear hs hl
  go_enter Tryd.func51, Tryd.ntmps51
  go_wp2
  go_loopw [6, 7] (fun x0 i0 wr => ∃ k : Nat, k ≤ 8 ∧ i0 = .int .i64 ((1 + k : Nat) : Int) ∧ x0 = .int .u64 ((beVal (t.take k) : Nat) : Int) ∧ wr = w) (fun _ i0 _ => 9 - (intOf i0).toNat)
  case atStart => exact ⟨0, by omega, rfl, rfl, rfl⟩
  case round =>
   obtain ⟨k, hk, rfl, rfl, rfl⟩ := hrel
   by_cases hlt : k < 8
   ·have hkt : k < t.length := by have := HS.out; omega
    have st := hid (beVal_step hkt)
    have hd := getD_ltM ht (by decide) k
    have hcx := hc k hkt
    rw [Nat.add_assoc] at hcx
    have bx := beVal_take_lt ht (k := k) (by omega)
    generalize t.getD k 0 = d at *
    generalize beVal (t.take k) = x at *
    clear hc h0 t0 t1
    go_wp2
    go_roundw
    case rel => exact ⟨k + 1, by omega, by go_num, by rw [st.out]; go_num, trivial⟩
    case measure => simp [intOf]; omega
   ·obtain rfl : k = 8 := by omega
    have hb := beVal_lt (t.take 8) (fun d hd => ht d (List.mem_of_mem_take hd))
    have hlen : (t.take 8).length = 8 := by have := HS.out; simp; omega
    rw [hlen] at hb
    have hx64 : beVal (t.take 8) < 18446744073709551616 := by omega
    have sl := size_len (beVal (t.take 8))
    have e3 : folN 255 = 8 := by decide
    have hS := fun wx => hid (rsize_walk _ hx64 wx)
    by_cases hv : beVal (t.take 8) < 4294967296
    ·have fin := hid (readS_form (h := 255) (by decide) HS.out hv)
     have t2 : (((size (beVal (t.take 8))).length : Int) == 9) = false := nbeq (by rw [sl]; (repeat' split) <;> omega)
     generalize beVal (t.take 8) = x at *
     clear hc sl hb hv
     go_wp2_with fail
     refine ((hS _).out).mono ?_
     rintro e w1 ⟨v, rfl, hown, b1⟩
     obtain ⟨a1, c1, rfl, s1⟩ := SlV.of_owns hown
     clear hown s1
     go_wp2
     go_ret3
     exact ⟨by rw [fin.out]; rfl, b1⟩
    ·have fin := hid (readS_ok (h := 255) (by decide) HS.out hv)
     rw [e3] at fin
     have t2 : (((size (beVal (t.take 8))).length : Int) == 9) = true := ybeq (by rw [sl]; (repeat' split) <;> omega)
     generalize beVal (t.take 8) = x at *
     clear hc sl hb hv
     go_wp2_with fail
     refine ((hS _).out).mono ?_
     rintro e w1 ⟨v, rfl, hown, b1⟩
     obtain ⟨a1, c1, rfl, s1⟩ := SlV.of_owns hown
     clear hown s1
     go_wp2
     go_ret3
     exact ⟨by rw [fin.out]; rfl, b1⟩
theorem rread_walk (a : Option Addr) (n cap : Nat) (xs : List Nat) (hx : ∀ d ∈ xs, d < 256) (hn : n ≤ 140737488355328) (w : World) (hS : Sl .u8 w a n cap xs) :
  Calls Tryd.prog 51 #[.slice a n cap] w (RdB w xs) := by
 have hl := hS.len
 obtain ⟨b, off, ha, hc⟩ := hS.opened
 cases xs with
 | nil =>
  obtain rfl : n = 0 := by simpa using hl.symm
  exact rread_nil a cap w
 | cons h t =>
  obtain rfl := ha (by rw [← hl]; simp)
  obtain ⟨h0, ht⟩ := cell_tail hl hc
  have hh := hx h (by simp)
  have hx' : ∀ d ∈ t, d < 256 := fun d hd => hx d (by simp [hd])
  by_cases h1 : h = 253
  ·subst h1; exact rread_2 b off n cap t hl hx' hn w h0 ht
  ·by_cases h2 : h = 254
   ·subst h2; exact rread_4 b off n cap t hl hx' hn w h0 ht
   ·by_cases h3 : h = 255
    ·subst h3; exact rread_8 b off n cap t hl hx' hn w h0 ht
    ·exact rread_one b off n cap h t (by simp [folN, h1, h2, h3]) hh (by rw [← hl]; simp) w h0
end Go.Proofs.YtnbmpgballopeaaDoor
/- Plain facts on numbers as bytes. -/
namespace Go.Proofs.YtnbmpgballopeaaDoor
open Go.RowKit
theorem size_len_bd (x : Nat) : 1 ≤ (size x).length ∧ (size x).length ≤ 9 := by
 rw [size_len]
 (repeat' split) <;> omega
end Go.Proofs.YtnbmpgballopeaaDoor
/- Appends in a region that draws its order, next to calls that make memory: the state of a growing slice of bytes. -/
namespace Go.Proofs.YtnbmpgballopeaaDoor
open Go.RowKit
def GrowSt (w0 : World) (G : Nat) (t : Nat) (s : Value) (w : World) (v : Value) (xs : List Nat) : Prop :=
 w.ownsRow w0.heap.size 5 1 v xs.length (nums .u8 xs) ∧ Below w0.heap.size w0 w ∧ BxR w G t s ∧ v.ownBlock ≠ some G ∧ w0.heap.size ≤ G
def ApartSl (w : World) (v : Value) (a : Option Addr) (n c : Nat) (ys : List Nat) : Prop := Sl .u8 w a n c ys ∧ (0 < n → ∀ b off, a = some ⟨b, off, none⟩ → v.ownBlock ≠ some b)
theorem GrowSt.lt {w0 : World} {G t : Nat} {s : Value} {w : World} {v : Value} {xs : List Nat} (h : GrowSt w0 G t s w v xs) : G < w.heap.size := World.block_lt_of_cell? w _ h.2.2.1.1
theorem GrowSt.ownLt {w0 : World} {G t : Nat} {s : Value} {w : World} {v : Value} {xs : List Nat} (h : GrowSt w0 G t s w v xs) : ∀ g, v.ownBlock = some g → w0.heap.size ≤ g ∧ g < w.heap.size := by
 intro g hg
 exact h.1.lt g hg
theorem GrowSt.below {w0 : World} {G t : Nat} {s : Value} {w w' : World} {v : Value} {xs : List Nat} (h : GrowSt w0 G t s w v xs) (hb : Below w.heap.size w w') : GrowSt w0 G t s w' v xs :=
 ⟨own_below h.1 hb, h.2.1.trans (hb.mono h.2.1.size), h.2.2.1.below hb, h.2.2.2⟩
theorem GrowSt.dN {w0 : World} {G t : Nat} {s : Value} {w : World} {v : Value} {xs : List Nat} (h : GrowSt w0 G t s w v xs) (q : Nat) : GrowSt w0 G t s (w.drewN q) v xs := h.below (below_drewN (Below.refl _ _) q)
theorem GrowSt.drew {w0 : World} {G t : Nat} {s : Value} {w : World} {v : Value} {xs : List Nat} (h : GrowSt w0 G t s w v xs) : GrowSt w0 G t s w.drew v xs := h.below ((Below.refl _ _).drew)
theorem ApartSl.below {w w' : World} {v : Value} {a : Option Addr} {n c : Nat} {ys : List Nat} (h : ApartSl w v a n c ys) (hb : Below w.heap.size w w') : ApartSl w' v a n c ys := ⟨h.1.below hb, h.2⟩
theorem GrowSt.call {w0 : World} {G t : Nat} {s : Value} {w w' : World} {v : Value} {xs ys : List Nat} {e : Ending} (h : GrowSt w0 G t s w v xs) (hr : BytesRes w ys e w') :
  ∃ a c, e = .returned (.slice a ys.length c) ∧ GrowSt w0 G t s w' v xs ∧ ApartSl w' v a ys.length c ys ∧ Below w.heap.size w w' := by
 obtain ⟨r, rfl, hown, hb⟩ := hr
 obtain ⟨a, c, rfl, hs⟩ := SlV.of_owns hown
 refine ⟨a, c, rfl, h.below hb, ⟨hs, fun h0 b off ha hv => ?_⟩, hb⟩
 have h1 := (h.ownLt b hv).2
 subst ha
 have h2 := (hown.lt b (by
  rcases hown.2 with ⟨e, _⟩ | ⟨g, cap, cur, e, _⟩
  ·simp at e
  ·rfl)).1
 omega
theorem GrowSt.arg {w0 : World} {G t : Nat} {s : Value} {w : World} {v : Value} {xs : List Nat} {a : Option Addr} {n c : Nat} {ys : List Nat} (h : GrowSt w0 G t s w v xs) (hs : Sl .u8 w0 a n c ys) : ApartSl w v a n c ys := by
 refine ⟨hs.below h.2.1, fun h0 b off ha hv => ?_⟩
 obtain ⟨b', off', ha', hc⟩ := hs.opened
 have := ha' h0
 rw [ha] at this
 simp only [Option.some.injEq, Addr.mk.injEq, and_true] at this
 obtain ⟨rfl, rfl⟩ := this
 have h1 := World.block_lt_of_cell? w0 _ (hc 0 h0)
 have h2 := (h.ownLt b hv).1
 simp at h1
 omega
theorem GrowSt.grew {w0 : World} {G t : Nat} {s : Value} {w w' : World} {v v' : Value} {xs ys : List Nat} {m : Nat} (h : GrowSt w0 G t s w v xs) (hm : ys.length = m) (hown : w'.ownsRow w0.heap.size 5 1 v' (xs.length + m) (nums .u8 xs ++ nums .u8 ys)) (hg : w.grownBy w' v.ownBlock) (hv : v'.ownBlock = v.ownBlock ∨ v'.ownBlock = some w.heap.size) :
  GrowSt w0 G t s w' v' (xs ++ ys) ∧ (∀ a n c zs, ApartSl w v a n c zs → ApartSl w' v' a n c zs) := by
 have hlt := h.lt
 have cell : ∀ p : Addr, p.block < w.heap.size → v.ownBlock ≠ some p.block → w'.cell? p = w.cell? p := fun p hp hne => hg.cell_far p hp (Ne.symm hne)
 refine ⟨⟨?_, ?_, ⟨?_, ?_⟩, ?_, h.2.2.2.2⟩, fun a n c zs ⟨h1, h2⟩ => ⟨?_, fun h0 b off ha => ?_⟩⟩
 ·rw [nums_append] at hown
  rw [List.length_append, hm]
  exact hown
 ·exact h.2.1.grown hg h.2.1.size (fun k hk => (h.ownLt k hk).1)
 ·rw [cell ⟨G, 0, none⟩ hlt h.2.2.2.1]; exact h.2.2.1.1
 ·rw [cell ⟨G, 1, none⟩ hlt h.2.2.2.1]; exact h.2.2.1.2
 ·rcases hv with hv | hv
  ·rw [hv]; exact h.2.2.2.1
  ·rw [hv]; intro e; simp at e; omega
 ·have hl := h1.len
  obtain ⟨q1, q2, q3, q4, b, off, ha, hc⟩ := h1
  refine ⟨q1, q2, q3, q4, b, off, ha, fun j u hu => ?_⟩
  have hj : 0 < n := by
   have := (List.getElem?_eq_some_iff.1 hu).1
   rw [nums_length] at this; omega
  have hcu := hc j u hu
  rw [cell _ (World.block_lt_of_cell? w _ hcu) (h2 hj b off (ha hj))]
  exact hcu
 ·rcases hv with hv | hv
  ·rw [hv]; exact h2 h0 b off ha
  ·rw [hv]
   intro e
   simp at e
   obtain ⟨b', off', ha', hc⟩ := h1.opened
   have := ha' h0
   rw [ha] at this
   simp only [Option.some.injEq, Addr.mk.injEq, and_true] at this
   obtain ⟨rfl, rfl⟩ := this
   have := World.block_lt_of_cell? w _ (hc 0 h0)
   simp at this
   omega
end Go.Proofs.YtnbmpgballopeaaDoor
/- Plain facts on records as bytes. No program in sight. -/
namespace Go.Proofs.YtnbmpgballopeaaDoor
abbrev Pr := Nat × List Nat
def encR (r : Pr) : List Nat := size r.1 ++ size r.2.length ++ r.2
def encAll (rs : List Pr) : List Nat := rs.flatMap encR
def encErr : Option Nat → List Pr → Nat
 | _, [] => 0
 | p, r :: s => if p.any (fun q => decide (r.1 ≤ q)) = true then 22 else if 65536 < r.2.length then 3 else encErr (some r.1) s
def encE (rs : List Pr) : Nat := if 256 < rs.length then 4 else encErr none rs
def prevT (rs : List Pr) (k : Nat) : Option Nat := match k with | 0 => none | j + 1 => rs[j]?.map (·.1)
theorem encErr_step {rs : List Pr} {k : Nat} {r : Pr} (h : rs[k]? = some r) : encErr (prevT rs k) (rs.drop k) = if (prevT rs k).any (fun q => decide (r.1 ≤ q)) = true then 22 else if 65536 < r.2.length then 3 else encErr (prevT rs (k + 1)) (rs.drop (k + 1)) := by
 have hk : k < rs.length := (List.getElem?_eq_some_iff.1 h).1
 have e : rs.drop k = r :: rs.drop (k + 1) := by
  rw [List.drop_eq_getElem_cons hk]
  congr 1
  rw [List.getElem?_eq_getElem hk] at h
  exact Option.some.inj h
 have e2 : prevT rs (k + 1) = some r.1 := by simp [prevT, h]
 rw [e, encErr, e2]
def decGo : Nat → Option Nat → Nat → List Nat → List Pr × Nat
 | 0, _, _, _ => ([], 0)
 | _, _, _, [] => ([], 0)
 | f + 1, p, n, bs =>
  let a := readS bs
  if a.2.2 ≠ 0 then ([], a.2.2)
  else if p.any (fun q => decide (a.1 ≤ q)) = true then ([], 22)
  else
   let b1 := bs.drop a.2.1
   let c := readS b1
   if c.2.2 ≠ 0 then ([], c.2.2)
   else
    let b2 := b1.drop c.2.1
    if 65536 < c.1 then ([], 3)
    else if b2.length < c.1 then ([], 20)
    else if 256 ≤ n then ([], 4)
    else
     let t := decGo f (some a.1) (n + 1) (b2.drop c.1)
     if t.2 ≠ 0 then ([], t.2) else ((a.1, b2.take c.1) :: t.1, 0)
def decS (bs : List Nat) : List Pr × Nat := decGo (bs.length + 1) none 0 bs
theorem readS_len {bs : List Nat} (h : (readS bs).2.2 = 0) : 1 ≤ (readS bs).2.1 ∧ (readS bs).2.1 ≤ bs.length := by
 cases bs with
 | nil => simp [readS] at h
 | cons x t =>
  unfold readS at *
  by_cases h1 : folN x = 0
  ·simp [h1]
  ·by_cases h2 : t.length < folN x
   ·simp [h1, h2] at h
   ·by_cases h3 : beVal (t.take (folN x)) < folL x
    ·simp [h1, h2, h3] at h
    ·simp [h1, h2, h3]; omega
theorem decGo_fuel : ∀ (f g : Nat) (p : Option Nat) (n : Nat) (bs : List Nat), bs.length < f → bs.length < g → decGo f p n bs = decGo g p n bs := by
 intro f
 induction f with
 | zero => intro g p n bs h; omega
 | succ f ih =>
  intro g p n bs hf hg
  cases g with
  | zero => omega
  | succ g =>
   cases bs with
   | nil => rfl
   | cons x t =>
    unfold decGo
    by_cases h1 : (readS (x :: t)).2.2 ≠ 0
    ·simp [h1]
    ·have hl := readS_len (by simpa using h1)
     have key : ∀ q m k j, decGo f q m (((((x :: t).drop (readS (x :: t)).2.1)).drop k).drop j) = decGo g q m (((((x :: t).drop (readS (x :: t)).2.1)).drop k).drop j) := by
      intro q m k j
      apply ih <;> (simp at *; omega)
     simp only [key]
theorem decGo_cons (p : Option Nat) (n : Nat) {bs : List Nat} (h0 : bs ≠ []) : decGo (bs.length + 1) p n bs =
  (if (readS bs).2.2 ≠ 0 then ([], (readS bs).2.2)
  else if p.any (fun q => decide ((readS bs).1 ≤ q)) = true then ([], 22)
  else if (readS (bs.drop (readS bs).2.1)).2.2 ≠ 0 then ([], (readS (bs.drop (readS bs).2.1)).2.2)
  else if 65536 < (readS (bs.drop (readS bs).2.1)).1 then ([], 3)
  else if ((bs.drop (readS bs).2.1).drop (readS (bs.drop (readS bs).2.1)).2.1).length < (readS (bs.drop (readS bs).2.1)).1 then ([], 20)
  else if 256 ≤ n then ([], 4)
  else (fun (b3 : List Nat) (v : List Nat) => (if (decGo (b3.length + 1) (some (readS bs).1) (n + 1) b3).2 ≠ 0 then (([] : List Pr), (decGo (b3.length + 1) (some (readS bs).1) (n + 1) b3).2) else (((readS bs).1, v) :: (decGo (b3.length + 1) (some (readS bs).1) (n + 1) b3).1, 0)))
   (((bs.drop (readS bs).2.1).drop (readS (bs.drop (readS bs).2.1)).2.1).drop (readS (bs.drop (readS bs).2.1)).1)
   (((bs.drop (readS bs).2.1).drop (readS (bs.drop (readS bs).2.1)).2.1).take (readS (bs.drop (readS bs).2.1)).1)) := by
 cases bs with
 | nil => exact absurd rfl h0
 | cons x t =>
  by_cases h1 : (readS (x :: t)).2.2 ≠ 0
  ·rw [decGo]
   ·simp [h1]
   ·simp
  ·have hl := readS_len (by simpa using h1)
   have hb3 : ((((x :: t).drop (readS (x :: t)).2.1).drop (readS ((x :: t).drop (readS (x :: t)).2.1)).2.1).drop (readS ((x :: t).drop (readS (x :: t)).2.1)).1).length < (x :: t).length := by
    simp at *; omega
   rw [decGo]
   ·simp only [decGo_fuel _ (((((x :: t).drop (readS (x :: t)).2.1).drop (readS ((x :: t).drop (readS (x :: t)).2.1)).2.1).drop (readS ((x :: t).drop (readS (x :: t)).2.1)).1).length + 1) _ _ _ hb3 (Nat.lt_succ_self _)]
   ·simp
end Go.Proofs.YtnbmpgballopeaaDoor
