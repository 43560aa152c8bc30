/- Contracts of package tlv: big, Size. -/
import Derived.Test.YtnophelfpoldfaaGreatDoorGKey
import Derived.Laws.Bits64b
import Derived.OwnWalk
namespace Go.Proofs.YtnophelfpoldfaaGreatDoor
open Go.RowKit

/-- n bytes of x, the highest first -/
def be : Nat → Nat → List Nat
  | 0, _ => []
  | n + 1, x => x / 256 ^ n % 256 :: be n x
theorem be_length (n x : Nat) : (be n x).length = n := by induction n with
  | zero => rfl
  | succ n ih => simp [be, ih]
theorem be_lt (n x : Nat) : ∀ d ∈ be n x, d < 256 := by induction n with
  | zero => simp [be]
  | succ n ih =>
    intro d hd
    rcases List.mem_cons.1 hd with rfl | hd
    · omega
    · exact ih d hd
theorem be_digit (x j : Nat) : (x : Int) / 2 ^ (8 * j) % 256 = ((x / 256 ^ j % 256 : Nat) : Int) := by
  rw [show (256 : Nat) ^ j = 2 ^ (8 * j) from by rw [Nat.pow_mul], Int.natCast_emod, Int.natCast_ediv, Int.natCast_pow]; rfl
/-- a number's bytes -/
def size (x : Nat) : List Nat := if x < 253 then [x] else if x < 65536 then 253 :: be 2 x else if x < 4294967296 then 254 :: be 4 x else 255 :: be 8 x

set_option maxHeartbeats 400000 in
theorem big_walk (B : Nat) (v : Value) (xs : List Nat) (x n : Nat) (_hx : x < 18446744073709551616) (hn : n ≤ 8) (hl : xs.length < 1000) (w : World) (hB : B ≤ w.heap.size) (hown : w.ownsRow B 5 1 v xs.length (nums .u8 xs)) :
    Calls Tryz.prog 77 #[v, .int .u64 x, .int .i64 n] w fun e w' => ∃ v', e = .returned v' ∧ w'.ownsRow B 5 1 v' (xs ++ be n x).length (nums .u8 (xs ++ be n x)) ∧ Below B w w' := by
  go_enter Tryz.func77, Tryz.ntmps77
  go_wp2
  go_loopw [0, 7] (fun v0 i0 wr => ∃ (k : Nat) (ps : List Nat), k ≤ n ∧ i0 = .int .i64 ((k : Int) - 1) ∧ Hid (ps ++ be k x = be n x) ∧ wr.ownsRow B 5 1 v0 (xs ++ ps).length (nums .u8 (xs ++ ps)) ∧ Below B w wr ∧ B ≤ wr.heap.size) (fun _ i0 _ => (intOf i0 + 1).toNat)
  case atStart => exact ⟨n, [], by omega, rfl, hid rfl, by simpa using hown, Below.refl _ _, hB⟩
  case round =>
    clear hown hB
    obtain ⟨k, ps, hk, rfl, hps, hown, hb, hB⟩ := hrel
    by_cases h0 : 0 < k
    · obtain ⟨j, rfl⟩ : ∃ j, k = j + 1 := ⟨k - 1, by omega⟩
      have hol : (xs ++ ps).length < 4294967296 := by
        have h1 := congrArg List.length hps.out
        simp [be_length] at h1
        simp
        omega
      have ej : (((j + 1 : Nat) : Int) - 1) = (j : Int) := by omega
      rw [ej]
      clear ej
      go_wp2_with (at_builtin; refine wpList_push rfl _ _ 22 rfl tyBs B hown rfl rfl rfl rfl hol (by decide) hB ?_)
      intro v1 w1 hown1 hb1 hs1 _
      have hown2 : w1.ownsRow B 5 1 v1 ((xs ++ ps).length + 1) (nums .u8 (xs ++ ps) ++ [Value.int .u8 ((x : Int) / 2 ^ (8 * j) % 256)]) := by rw [List.length_append]; exact hown1
      have hown3 := own_snoc hown2 (be_digit x j)
      rw [List.append_assoc] at hown3
      clear hown1 hown2 hown
      go_wp2
      go_roundw
      case rel => exact ⟨j, ps ++ [x / 256 ^ j % 256], by omega, rfl, hid (by rw [List.append_assoc]; exact hps.out), hown3, hb.trans hb1, by omega⟩
      case measure => simp [intOf]
    · obtain rfl : k = 0 := by omega
      have hps' := hps.out
      simp only [be, List.append_nil] at hps'
      rw [hps'] at hown
      have H := hid hown
      clear hown hps hps'
      go_wp2
      go_ret
      exact ⟨_, rfl, H.out, hb⟩
/-- a new row of bytes -/
def BytesRes (w : World) (xs : List Nat) (e : Ending) (w' : World) : Prop := ∃ v, e = .returned v ∧ w'.ownsRow w.heap.size 5 1 v xs.length (nums .u8 xs) ∧ Below w.heap.size w w'
theorem size_lt (x : Nat) : ∀ d ∈ size x, d < 256 := by
  unfold size
  intro d hd
  split at hd
  · simp at hd; omega
  · split at hd
    · rcases List.mem_cons.1 hd with rfl | hd
      · omega
      · exact be_lt _ _ d hd
    · split at hd
      · rcases List.mem_cons.1 hd with rfl | hd
        · omega
        · exact be_lt _ _ d hd
      · rcases List.mem_cons.1 hd with rfl | hd
        · omega
        · exact be_lt _ _ d hd

set_option maxHeartbeats 1000000 in
theorem size_walk (x : Nat) (hx : x < 18446744073709551616) (w : World) : Calls Tryz.prog 67 #[.int .u64 x] w (BytesRes w (size x)) := by
  have L := fun (d : Nat) => hid (own_lit .u8 w #[.int .u8 (d : Int)] 5 (B := w.heap.size) (n := 1) [d] rfl rfl (Nat.le_refl _) (by decide))
  have bb := fun (d : Int) => (Below.refl w.heap.size w).alloc (Nat.le_refl _) (.cells #[.int .u8 d] 5)
  have F := fun v w' xs (h1 : w'.ownsRow w.heap.size 5 1 v xs.length (nums .u8 xs)) (h2 : Below w.heap.size w w') => (⟨v, rfl, h1, h2⟩ : BytesRes w xs (.returned v) w')
  by_cases h1 : x < 253
  · have e : size x = [x] := by unfold size; rw [if_pos h1]
    rw [e]
    have FF := hid (F _ _ [x] (L x).out (bb x))
    clear F L bb e
    have t1 : decide ((x : Int) < 253) = true := by rw [decide_eq_true_eq]; omega
    have t2 : (x : Int) ≤ 252 := by omega
    clear h1
    go_enter Tryz.func67, Tryz.ntmps67
    go_wp2
    go_ret
    exact FF.out
  · by_cases h2 : x < 65536
    · have e : size x = [253] ++ be 2 x := by unfold size; rw [if_neg h1, if_pos h2]; rfl
      have E := hid e
      have b := bb 253
      have l := L 253
      clear bb L e
      have t1 : decide ((x : Int) < 253) = false := by rw [decide_eq_false_iff_not]; omega
      have t2 : decide ((x : Int) < 65536) = true := by rw [decide_eq_true_eq]; omega
      clear h1 h2
      have C := hid (big_walk w.heap.size _ [253] x 2 hx (by decide) (by simp) _ (by simp) l.out)
      go_enter Tryz.func67, Tryz.ntmps67
      go_wp2_with fail
      refine (C.out).mono ?_
      rintro e w1 ⟨v, rfl, hown, hb⟩
      have FF := hid (F v w1 _ hown (b.trans hb))
      clear F hown hb
      go_wp2
      go_ret
      rw [E.out]
      exact FF.out
    · by_cases h3 : x < 4294967296
      · have e : size x = [254] ++ be 4 x := by unfold size; rw [if_neg h1, if_neg h2, if_pos h3]; rfl
        have E := hid e
        have b := bb 254
        have l := L 254
        clear bb L e
        have t1 : decide ((x : Int) < 253) = false := by rw [decide_eq_false_iff_not]; omega
        have t2 : decide ((x : Int) < 65536) = false := by rw [decide_eq_false_iff_not]; omega
        have t3 : decide ((x : Int) < 4294967296) = true := by rw [decide_eq_true_eq]; omega
        clear h1 h2 h3
        have C := hid (big_walk w.heap.size _ [254] x 4 hx (by decide) (by simp) _ (by simp) l.out)
        go_enter Tryz.func67, Tryz.ntmps67
        go_wp2_with fail
        refine (C.out).mono ?_
        rintro e w1 ⟨v, rfl, hown, hb⟩
        have FF := hid (F v w1 _ hown (b.trans hb))
        clear F hown hb
        go_wp2
        go_ret
        rw [E.out]
        exact FF.out
      · have e : size x = [255] ++ be 8 x := by unfold size; rw [if_neg h1, if_neg h2, if_neg h3]; rfl
        have E := hid e
        have b := bb 255
        have l := L 255
        clear bb L e
        have t1 : decide ((x : Int) < 253) = false := by rw [decide_eq_false_iff_not]; omega
        have t2 : decide ((x : Int) < 65536) = false := by rw [decide_eq_false_iff_not]; omega
        have t3 : decide ((x : Int) < 4294967296) = false := by rw [decide_eq_false_iff_not]; omega
        clear h1 h2 h3
        have C := hid (big_walk w.heap.size _ [255] x 8 hx (by decide) (by simp) _ (by simp) l.out)
        go_enter Tryz.func67, Tryz.ntmps67
        go_wp2_with fail
        refine (C.out).mono ?_
        rintro e w1 ⟨v, rfl, hown, hb⟩
        have FF := hid (F v w1 _ hown (b.trans hb))
        clear F hown hb
        go_wp2
        go_ret
        rw [E.out]
        exact FF.out
end Go.Proofs.YtnophelfpoldfaaGreatDoor

/- Contract of the reference's Size; the statement TlvSizes. -/
namespace Go.Proofs.YtnophelfpoldfaaGreatDoor
open Go.RowKit

theorem be_bound (n x : Nat) : (be n x).length = n := be_length n x
theorem shr_bound {x i : Nat} (hx : x < 18446744073709551616) : x / 256 ^ i < 18446744073709551616 := Nat.lt_of_le_of_lt (Nat.div_le_self _ _) hx
theorem pow_succ_div (x i : Nat) : x / 256 ^ (i + 1) = x / 256 ^ i / 256 := by rw [Nat.pow_succ, Nat.div_div_eq_div_mul]

set_option maxHeartbeats 1000000 in
theorem rsize_small (x : Nat) (h1 : x < 253) (w : World) : Calls Tryz.prog 65 #[.int .u64 x] w (BytesRes w (size x)) := by
  have e : size x = [x] := by unfold size; rw [if_pos h1]
  rw [e]
  have t1 : decide ((x : Int) < 253) = true := by rw [decide_eq_true_eq]; omega
  have t2 : decide ((x : Int) < 65536) = true := by rw [decide_eq_true_eq]; omega
  have t3 : decide ((x : Int) < 4294967296) = true := by rw [decide_eq_true_eq]; omega
  have t4 : (x : Int) ≤ 252 := by omega
  clear h1 e
  have F := fun W (hb : Below w.heap.size w W) => hid (show BytesRes w [x] (.returned (.slice (some ⟨W.heap.size, 0, none⟩) 1 1)) (W.alloc (.cells #[.int .u8 (x : Int)] 5)) from ⟨_, rfl, own_lit .u8 W #[.int .u8 (x : Int)] 5 (B := w.heap.size) (n := 1) [x] rfl rfl hb.size (by decide), hb.alloc hb.size _⟩)
  have FF := F _ ((((Below.refl w.heap.size w).alloc (Nat.le_refl _) (.cells #[.int .u8 255] 5)).alloc (by simp <;> omega) (.cells #[.int .u8 254] 5)).alloc (by simp <;> omega) (.cells #[.int .u8 253] 5))
  clear F
  go_enter Tryz.func65, Tryz.ntmps65
  go_wp2
  go_ret
  simpa using FF.out

set_option maxHeartbeats 2000000 in
theorem rsize_2 (x : Nat) (hx : x < 18446744073709551616) (h1 : ¬ x < 253) (h2 : x < 65536) (w : World) : Calls Tryz.prog 65 #[.int .u64 x] w (BytesRes w (size x)) := by
  have e : size x = [253] ++ be 2 x := by unfold size; rw [if_neg h1, if_pos h2]; rfl
  rw [e]
  have t1 : decide ((x : Int) < 253) = false := by rw [decide_eq_false_iff_not]; omega
  have t2 : decide ((x : Int) < 65536) = true := by rw [decide_eq_true_eq]; omega
  have t3 : decide ((x : Int) < 4294967296) = true := by rw [decide_eq_true_eq]; omega
  clear h1 h2
  clear e
  have OH := own_lit .u8 ((w.alloc (.cells #[.int .u8 255] 5)).alloc (.cells #[.int .u8 254] 5)) #[.int .u8 253] 5 (B := w.heap.size) (n := 1) [253] rfl rfl (by simp <;> omega) (by decide)
  have BB := ((((Below.refl w.heap.size w).alloc (by simp <;> omega) (.cells #[.int .u8 255] 5)).alloc (by simp <;> omega) (.cells #[.int .u8 254] 5)).alloc (by simp <;> omega) (.cells #[.int .u8 253] 5))
  have hs0 := shr_bound (i := 0) hx
  generalize hW : (((w.alloc (.cells #[.int .u8 255] 5)).alloc (.cells #[.int .u8 254] 5)).alloc (.cells #[.int .u8 253] 5)) = W at *
  have OH' := own_below OH ((Below.refl W.heap.size W).alloc (Nat.le_refl _) (.cells #[] 5))
  have BB' := BB.alloc BB.size (.cells #[] 5)
  have ST : SlV .u8 (W.alloc (.cells #[] 5)) (.slice (some ⟨W.heap.size, 0, none⟩) 0 0) [] := (Sl.nilS _ _ (by omega) (fun e => by cases e)).toV
  subst hW
  have O := hid OH'
  have B0 := hid BB'
  have S0 := hid ST
  clear OH OH' BB BB' ST hs0
  go_enter Tryz.func65, Tryz.ntmps65
  go_wp2
  go_loopw [0, 5, 6] (fun x0 v i0 wr => ∃ i : Nat, i ≤ 2 ∧ i0 = .int .i64 i ∧ x0 = .int .u64 ((x / 256 ^ i : Nat) : Int) ∧ SlV .u8 wr v (be i x) ∧ Below w.heap.size w wr ∧ Hid (∃ g, True ∧ wr.ownsRow w.heap.size 5 1 (.slice (some ⟨g, 0, none⟩) 1 1) 1 (nums .u8 [253]) ∧ g = w.heap.size + 2)) (fun _ _ i0 _ => 2 - (intOf i0).toNat)
  case atStart => exact ⟨0, by omega, rfl, by simp, by simpa [be] using S0.out, by simpa using B0.out, hid ⟨_, trivial, by simpa using O.out, rfl⟩⟩
  case round =>
    clear O B0 S0 t1 t2 t3
    obtain ⟨i, hi, rfl, rfl, ⟨at1, ct, rfl, st⟩, hbw, hO⟩ := hrel
    by_cases hlt : i < 2
    · have hxi := shr_bound (i := i) hx
      have hxs := hid (pow_succ_div x i)
      have hbe := hid (show [x / 256 ^ i % 256] ++ be i x = be (i + 1) x from rfl)
      have hbl := be_length i x
      generalize x / 256 ^ i = xi at *
      generalize be i x = ts at *
      have HBL := hid hbl
      have hil : ts.length ≤ 8 := by omega
      clear hbl
      have O1 := hid (own_lit .u8 wr #[.int .u8 ((xi : Int) % 256)] 5 (B := wr.heap.size) (n := 1) [xi % 256] rfl rfl (Nat.le_refl _) (by decide))
      have bb := (Below.refl wr.heap.size wr).alloc (Nat.le_refl _) (.cells #[.int .u8 ((xi : Int) % 256)] 5)
      have S1 := hid (st.below bb)
      clear st
      go_wp2_with (at_builtin; refine wpList_cat rfl _ _ 22 rfl tyBs wr.heap.size O1.out rfl rfl S1.out (nums_oneCell _ _) ?c1 ?c2 ?c3 ?_)
      case c1 => omega
      case c2 => unfold maxLen; omega
      case c3 => simp
      intro v1 w1 hown1 hb1 hs1 _
      rw [nums_append] at hown1
      have sv := SlV.of_owns hown1
      rw [hbe.out] at sv
      have b1 : Below wr.heap.size wr w1 := bb.trans hb1
      have hO' := hid (show ∃ g, True ∧ w1.ownsRow w.heap.size 5 1 (.slice (some ⟨g, 0, none⟩) 1 1) 1 (nums .u8 [253]) ∧ g = w.heap.size + 2 by
        obtain ⟨g, _, o, e⟩ := hO.out
        exact ⟨g, trivial, own_below o b1, e⟩)
      have hb' := bstep hbw b1
      clear hown1 hb1 hs1 bb S1 O1 hO b1 hbw
      go_wp2
      go_roundw
      case rel => exact ⟨i + 1, by omega, by go_num, by rw [hxs.out]; go_num, sv, hb', hO'⟩
      case measure => simp [intOf]; omega
    · obtain rfl : i = 2 := by omega
      obtain ⟨g, _, o, rfl⟩ := hO.out
      have hbl := be_length 2 x
      have OO := hid o
      have SS := hid st
      have hln : (be 2 x).length ≤ 8 := by omega
      generalize be 2 x = ts at *
      clear hO o st hbl
      go_wp2_with (at_builtin; refine wpList_cat rfl _ _ 22 rfl tyBs w.heap.size OO.out rfl rfl SS.out (nums_oneCell _ _) ?k1 ?k2 ?k3 ?_)
      case k1 => omega
      case k2 => unfold maxLen; omega
      case k3 => exact hbw.size
      intro v1 w1 hown1 hb1 hs1 _
      rw [nums_append] at hown1
      have F := hid (show BytesRes w ([253] ++ ts) (.returned v1) w1 from ⟨v1, rfl, by simpa [Nat.add_comm] using hown1, hbw.trans hb1⟩)
      clear hown1 hb1 hs1
      go_wp2
      go_ret
      exact F.out
set_option maxHeartbeats 2000000 in
theorem rsize_4 (x : Nat) (hx : x < 18446744073709551616) (h1 : ¬ x < 253) (h2 : ¬ x < 65536) (h3 : x < 4294967296) (w : World) : Calls Tryz.prog 65 #[.int .u64 x] w (BytesRes w (size x)) := by
  have e : size x = [254] ++ be 4 x := by unfold size; rw [if_neg h1, if_neg h2, if_pos h3]; rfl
  rw [e]
  have t1 : decide ((x : Int) < 253) = false := by rw [decide_eq_false_iff_not]; omega
  have t2 : decide ((x : Int) < 65536) = false := by rw [decide_eq_false_iff_not]; omega
  have t3 : decide ((x : Int) < 4294967296) = true := by rw [decide_eq_true_eq]; omega
  clear h1 h2 h3
  clear e
  have OH := own_lit .u8 (w.alloc (.cells #[.int .u8 255] 5)) #[.int .u8 254] 5 (B := w.heap.size) (n := 1) [254] rfl rfl (by simp <;> omega) (by decide)
  have BB := (((Below.refl w.heap.size w).alloc (by simp <;> omega) (.cells #[.int .u8 255] 5)).alloc (by simp <;> omega) (.cells #[.int .u8 254] 5))
  have hs0 := shr_bound (i := 0) hx
  generalize hW : ((w.alloc (.cells #[.int .u8 255] 5)).alloc (.cells #[.int .u8 254] 5)) = W at *
  have OH' := own_below OH ((Below.refl W.heap.size W).alloc (Nat.le_refl _) (.cells #[] 5))
  have BB' := BB.alloc BB.size (.cells #[] 5)
  have ST : SlV .u8 (W.alloc (.cells #[] 5)) (.slice (some ⟨W.heap.size, 0, none⟩) 0 0) [] := (Sl.nilS _ _ (by omega) (fun e => by cases e)).toV
  subst hW
  have O := hid OH'
  have B0 := hid BB'
  have S0 := hid ST
  clear OH OH' BB BB' ST hs0
  go_enter Tryz.func65, Tryz.ntmps65
  go_wp2
  go_loopw [0, 5, 6] (fun x0 v i0 wr => ∃ i : Nat, i ≤ 4 ∧ i0 = .int .i64 i ∧ x0 = .int .u64 ((x / 256 ^ i : Nat) : Int) ∧ SlV .u8 wr v (be i x) ∧ Below w.heap.size w wr ∧ Hid (∃ g, True ∧ wr.ownsRow w.heap.size 5 1 (.slice (some ⟨g, 0, none⟩) 1 1) 1 (nums .u8 [254]) ∧ g = w.heap.size + 1)) (fun _ _ i0 _ => 4 - (intOf i0).toNat)
  case atStart => exact ⟨0, by omega, rfl, by simp, by simpa [be] using S0.out, by simpa using B0.out, hid ⟨_, trivial, by simpa using O.out, rfl⟩⟩
  case round =>
    clear O B0 S0 t1 t2 t3
    obtain ⟨i, hi, rfl, rfl, ⟨at1, ct, rfl, st⟩, hbw, hO⟩ := hrel
    by_cases hlt : i < 4
    · have hxi := shr_bound (i := i) hx
      have hxs := hid (pow_succ_div x i)
      have hbe := hid (show [x / 256 ^ i % 256] ++ be i x = be (i + 1) x from rfl)
      have hbl := be_length i x
      generalize x / 256 ^ i = xi at *
      generalize be i x = ts at *
      have HBL := hid hbl
      have hil : ts.length ≤ 8 := by omega
      clear hbl
      have O1 := hid (own_lit .u8 wr #[.int .u8 ((xi : Int) % 256)] 5 (B := wr.heap.size) (n := 1) [xi % 256] rfl rfl (Nat.le_refl _) (by decide))
      have bb := (Below.refl wr.heap.size wr).alloc (Nat.le_refl _) (.cells #[.int .u8 ((xi : Int) % 256)] 5)
      have S1 := hid (st.below bb)
      clear st
      go_wp2_with (at_builtin; refine wpList_cat rfl _ _ 22 rfl tyBs wr.heap.size O1.out rfl rfl S1.out (nums_oneCell _ _) ?c1 ?c2 ?c3 ?_)
      case c1 => omega
      case c2 => unfold maxLen; omega
      case c3 => simp
      intro v1 w1 hown1 hb1 hs1 _
      rw [nums_append] at hown1
      have sv := SlV.of_owns hown1
      rw [hbe.out] at sv
      have b1 : Below wr.heap.size wr w1 := bb.trans hb1
      have hO' := hid (show ∃ g, True ∧ w1.ownsRow w.heap.size 5 1 (.slice (some ⟨g, 0, none⟩) 1 1) 1 (nums .u8 [254]) ∧ g = w.heap.size + 1 by
        obtain ⟨g, _, o, e⟩ := hO.out
        exact ⟨g, trivial, own_below o b1, e⟩)
      have hb' := bstep hbw b1
      clear hown1 hb1 hs1 bb S1 O1 hO b1 hbw
      go_wp2
      go_roundw
      case rel => exact ⟨i + 1, by omega, by go_num, by rw [hxs.out]; go_num, sv, hb', hO'⟩
      case measure => simp [intOf]; omega
    · obtain rfl : i = 4 := by omega
      obtain ⟨g, _, o, rfl⟩ := hO.out
      have hbl := be_length 4 x
      have OO := hid o
      have SS := hid st
      have hln : (be 4 x).length ≤ 8 := by omega
      generalize be 4 x = ts at *
      clear hO o st hbl
      go_wp2_with (at_builtin; refine wpList_cat rfl _ _ 22 rfl tyBs w.heap.size OO.out rfl rfl SS.out (nums_oneCell _ _) ?k1 ?k2 ?k3 ?_)
      case k1 => omega
      case k2 => unfold maxLen; omega
      case k3 => exact hbw.size
      intro v1 w1 hown1 hb1 hs1 _
      rw [nums_append] at hown1
      have F := hid (show BytesRes w ([254] ++ ts) (.returned v1) w1 from ⟨v1, rfl, by simpa [Nat.add_comm] using hown1, hbw.trans hb1⟩)
      clear hown1 hb1 hs1
      go_wp2
      go_ret
      exact F.out
set_option maxHeartbeats 2000000 in
theorem rsize_8 (x : Nat) (hx : x < 18446744073709551616) (h1 : ¬ x < 253) (h2 : ¬ x < 65536) (h3 : ¬ x < 4294967296) (w : World) : Calls Tryz.prog 65 #[.int .u64 x] w (BytesRes w (size x)) := by
  have e : size x = [255] ++ be 8 x := by unfold size; rw [if_neg h1, if_neg h2, if_neg h3]; rfl
  rw [e]
  have t1 : decide ((x : Int) < 253) = false := by rw [decide_eq_false_iff_not]; omega
  have t2 : decide ((x : Int) < 65536) = false := by rw [decide_eq_false_iff_not]; omega
  have t3 : decide ((x : Int) < 4294967296) = false := by rw [decide_eq_false_iff_not]; omega
  clear h1 h2 h3
  clear e
  have OH := own_lit .u8 w #[.int .u8 255] 5 (B := w.heap.size) (n := 1) [255] rfl rfl (by simp <;> omega) (by decide)
  have BB := ((Below.refl w.heap.size w).alloc (by simp <;> omega) (.cells #[.int .u8 255] 5))
  have hs0 := shr_bound (i := 0) hx
  generalize hW : (w.alloc (.cells #[.int .u8 255] 5)) = W at *
  have OH' := own_below OH ((Below.refl W.heap.size W).alloc (Nat.le_refl _) (.cells #[] 5))
  have BB' := BB.alloc BB.size (.cells #[] 5)
  have ST : SlV .u8 (W.alloc (.cells #[] 5)) (.slice (some ⟨W.heap.size, 0, none⟩) 0 0) [] := (Sl.nilS _ _ (by omega) (fun e => by cases e)).toV
  subst hW
  have O := hid OH'
  have B0 := hid BB'
  have S0 := hid ST
  clear OH OH' BB BB' ST hs0
  go_enter Tryz.func65, Tryz.ntmps65
  go_wp2
  go_loopw [0, 5, 6] (fun x0 v i0 wr => ∃ i : Nat, i ≤ 8 ∧ i0 = .int .i64 i ∧ x0 = .int .u64 ((x / 256 ^ i : Nat) : Int) ∧ SlV .u8 wr v (be i x) ∧ Below w.heap.size w wr ∧ Hid (∃ g, True ∧ wr.ownsRow w.heap.size 5 1 (.slice (some ⟨g, 0, none⟩) 1 1) 1 (nums .u8 [255]) ∧ g = w.heap.size)) (fun _ _ i0 _ => 8 - (intOf i0).toNat)
  case atStart => exact ⟨0, by omega, rfl, by simp, by simpa [be] using S0.out, by simpa using B0.out, hid ⟨_, trivial, by simpa using O.out, rfl⟩⟩
  case round =>
    clear O B0 S0 t1 t2 t3
    obtain ⟨i, hi, rfl, rfl, ⟨at1, ct, rfl, st⟩, hbw, hO⟩ := hrel
    by_cases hlt : i < 8
    · have hxi := shr_bound (i := i) hx
      have hxs := hid (pow_succ_div x i)
      have hbe := hid (show [x / 256 ^ i % 256] ++ be i x = be (i + 1) x from rfl)
      have hbl := be_length i x
      generalize x / 256 ^ i = xi at *
      generalize be i x = ts at *
      have HBL := hid hbl
      have hil : ts.length ≤ 8 := by omega
      clear hbl
      have O1 := hid (own_lit .u8 wr #[.int .u8 ((xi : Int) % 256)] 5 (B := wr.heap.size) (n := 1) [xi % 256] rfl rfl (Nat.le_refl _) (by decide))
      have bb := (Below.refl wr.heap.size wr).alloc (Nat.le_refl _) (.cells #[.int .u8 ((xi : Int) % 256)] 5)
      have S1 := hid (st.below bb)
      clear st
      go_wp2_with (at_builtin; refine wpList_cat rfl _ _ 22 rfl tyBs wr.heap.size O1.out rfl rfl S1.out (nums_oneCell _ _) ?c1 ?c2 ?c3 ?_)
      case c1 => omega
      case c2 => unfold maxLen; omega
      case c3 => simp
      intro v1 w1 hown1 hb1 hs1 _
      rw [nums_append] at hown1
      have sv := SlV.of_owns hown1
      rw [hbe.out] at sv
      have b1 : Below wr.heap.size wr w1 := bb.trans hb1
      have hO' := hid (show ∃ g, True ∧ w1.ownsRow w.heap.size 5 1 (.slice (some ⟨g, 0, none⟩) 1 1) 1 (nums .u8 [255]) ∧ g = w.heap.size by
        obtain ⟨g, _, o, e⟩ := hO.out
        exact ⟨g, trivial, own_below o b1, e⟩)
      have hb' := bstep hbw b1
      clear hown1 hb1 hs1 bb S1 O1 hO b1 hbw
      go_wp2
      go_roundw
      case rel => exact ⟨i + 1, by omega, by go_num, by rw [hxs.out]; go_num, sv, hb', hO'⟩
      case measure => simp [intOf]; omega
    · obtain rfl : i = 8 := by omega
      obtain ⟨g, _, o, rfl⟩ := hO.out
      have hbl := be_length 8 x
      have OO := hid o
      have SS := hid st
      have hln : (be 8 x).length ≤ 8 := by omega
      generalize be 8 x = ts at *
      clear hO o st hbl
      go_wp2_with (at_builtin; refine wpList_cat rfl _ _ 22 rfl tyBs w.heap.size OO.out rfl rfl SS.out (nums_oneCell _ _) ?k1 ?k2 ?k3 ?_)
      case k1 => omega
      case k2 => unfold maxLen; omega
      case k3 => exact hbw.size
      intro v1 w1 hown1 hb1 hs1 _
      rw [nums_append] at hown1
      have F := hid (show BytesRes w ([255] ++ ts) (.returned v1) w1 from ⟨v1, rfl, by simpa [Nat.add_comm] using hown1, hbw.trans hb1⟩)
      clear hown1 hb1 hs1
      go_wp2
      go_ret
      exact F.out
theorem rsize_walk (x : Nat) (hx : x < 18446744073709551616) (w : World) : Calls Tryz.prog 65 #[.int .u64 x] w (BytesRes w (size x)) := by
  by_cases h1 : x < 253
  · exact rsize_small x h1 w
  · by_cases h2 : x < 65536
    · exact rsize_2 x hx h1 h2 w
    · by_cases h3 : x < 4294967296
      · exact rsize_4 x hx h1 h2 h3 w
      · exact rsize_8 x hx h1 h2 h3 w
end Go.Proofs.YtnophelfpoldfaaGreatDoor

/- Plain facts on the number with which bytes begin. No program in sight. -/
namespace Go.Proofs.YtnophelfpoldfaaGreatDoor

/-- the number that bytes are, the highest first -/
def beVal (bs : List Nat) : Nat := bs.foldl (fun x c => x * 256 + c) 0
theorem beVal_snoc (bs : List Nat) (c : Nat) : beVal (bs ++ [c]) = beVal bs * 256 + c := by simp [beVal]
theorem beVal_lt (bs : List Nat) (h : ∀ d ∈ bs, d < 256) : beVal bs < 256 ^ bs.length := by
  rcases List.eq_nil_or_concat bs with rfl | ⟨ys, d, rfl⟩
  · simp [beVal]
  · rw [List.concat_eq_append] at *
    have ih := beVal_lt ys (fun e he => h e (by simp [he]))
    have hd := h d (by simp)
    rw [beVal_snoc, List.length_append, List.length_singleton, Nat.pow_succ]
    omega
termination_by bs.length
/-- how many bytes follow a first byte; what the number must be at least -/
def folN (h : Nat) : Nat := if h = 253 then 2 else if h = 254 then 4 else if h = 255 then 8 else 0
def folL (h : Nat) : Nat := if h = 253 then 253 else if h = 254 then 65536 else if h = 255 then 4294967296 else 0
/-- the number, how many bytes, the error -/
def readS (bs : List Nat) : Nat × Nat × Nat :=
  match bs with
  | [] => (0, 0, 20)
  | h :: t => if folN h = 0 then (h, 1, 0) else if t.length < folN h then (0, 0, 20) else if beVal (t.take (folN h)) < folL h then (0, 0, 21) else (beVal (t.take (folN h)), folN h + 1, 0)
end Go.Proofs.YtnophelfpoldfaaGreatDoor

/- The walks of tlv.Read and of the reference's Read. -/
namespace Go.Proofs.YtnophelfpoldfaaGreatDoor
open Go.RowKit

def RdV3 (p : Nat × Nat × Nat) : Value := .tuple #[.int .u64 (p.1 : Int), .int .i64 (p.2.1 : Int), .int .i64 (p.2.2 : Int)]
theorem or256 {x c : Nat} (hx : x * 256 < 18446744073709551616) (hc : c < 256) : bits .or .u64 ((x : Int) * 256) (c : Int) = ((x * 256 + c : Nat) : Int) := by
  have h := bits_or_u64_nat (x * 256) c hx (by omega)
  have e : ((x : Int) * 256) = ((x * 256 : Nat) : Int) := by omega
  rw [e, h]
  have := Nat.two_pow_add_eq_or_of_lt (i := 8) (b := c) (by omega) x
  rw [Nat.mul_comm x 256]
  exact congrArg _ this.symm
theorem beVal_step {t : List Nat} {k : Nat} (h : k < t.length) : beVal (t.take (k + 1)) = beVal (t.take k) * 256 + t.getD k 0 := by
  rw [List.take_add_one, List.getElem?_eq_getElem h, Option.toList_some, beVal_snoc]
  simp [List.getElem?_eq_getElem h]
theorem beVal_take_lt {t : List Nat} (h : ∀ d ∈ t, d < 256) {k : Nat} (hk : k ≤ 7) : beVal (t.take k) * 256 < 18446744073709551616 := by
  have h1 := beVal_lt (t.take k) (fun d hd => h d (List.mem_of_mem_take hd))
  have h2 : 256 ^ (t.take k).length ≤ 256 ^ 7 := Nat.pow_le_pow_right (by omega) (by simp; omega)
  omega
theorem cell_tail {w : World} {b off : Nat} {n : Nat} {h : Nat} {t : List Nat} (hl : (h :: t).length = n) (hc : ∀ j, j < n → w.cell? ⟨b, off + j, none⟩ = some (.int .u8 (((h :: t).getD j 0 : Nat) : Int))) :
    w.cell? ⟨b, off, none⟩ = some (.int .u8 (h : Int)) ∧ ∀ k, k < t.length → w.cell? ⟨b, off + 1 + k, none⟩ = some (.int .u8 ((t.getD k 0 : Nat) : Int)) := by
  refine ⟨by have := hc 0 (by rw [← hl]; simp); simpa using this, fun k hk => ?_⟩
  have := hc (k + 1) (by rw [← hl]; simp; omega)
  rw [show off + 1 + k = off + (k + 1) by omega]
  simpa using this
theorem nbeq {x y : Nat} (h : x ≠ y) : ((x : Int) == (y : Int)) = false := by simp; omega
theorem ybeq {x y : Nat} (h : x = y) : ((x : Int) == (y : Int)) = true := by simp; omega
theorem getD_ltM {xs : List Nat} {M : Nat} (h : ∀ d ∈ xs, d < M) (hM : 0 < M) (k : Nat) : xs.getD k 0 < M := by
  rw [List.getD_eq_getElem?_getD]
  cases hk : xs[k]? with
  | none => simpa using hM
  | some d => simpa using h d (List.mem_of_getElem? hk)
theorem readS_nil : readS [] = (0, 0, 20) := rfl
theorem readS_one {h : Nat} (t : List Nat) (hh : folN h = 0) : readS (h :: t) = (h, 1, 0) := by simp [readS, hh]
theorem readS_short {h : Nat} {t : List Nat} (hh : folN h ≠ 0) (hl : t.length < folN h) : readS (h :: t) = (0, 0, 20) := by simp [readS, hh, hl]
theorem readS_form {h : Nat} {t : List Nat} (hh : folN h ≠ 0) (hl : ¬ t.length < folN h) (hv : beVal (t.take (folN h)) < folL h) : readS (h :: t) = (0, 0, 21) := by simp [readS, hh, hl, hv]
theorem readS_ok {h : Nat} {t : List Nat} (hh : folN h ≠ 0) (hl : ¬ t.length < folN h) (hv : ¬ beVal (t.take (folN h)) < folL h) : readS (h :: t) = (beVal (t.take (folN h)), folN h + 1, 0) := by simp [readS, hh, hl, hv]

set_option maxHeartbeats 400000 in
theorem read_nil (a : Option Addr) (cap : Nat) (w : World) : Calls Tryz.prog 66 #[.slice a 0 cap] w fun e w' => e = .returned (RdV3 (readS [])) ∧ w = w' := by
  go_enter Tryz.func66, Tryz.ntmps66
  go_wp2
  go_ret3
  exact ⟨rfl, rfl⟩
set_option maxHeartbeats 400000 in
theorem read_one (b off n cap h : Nat) (t : List Nat) (hh : folN h = 0) (hc : h < 256) (hn : 0 < n) (w : World) (h0 : w.cell? ⟨b, off, none⟩ = some (.int .u8 (h : Int))) : Calls Tryz.prog 66 #[.slice (some ⟨b, off, none⟩) n cap] w fun e w' => e = .returned (RdV3 (readS (h :: t))) ∧ w = w' := by
  have fin := hid (readS_one t hh)
  have t0 : ((n : Int) == 0) = false := by simp; omega
  have hn0 : 0 < n := by omega
  have t1 : ((h : Int) == 253) = false := nbeq (by rintro rfl; exact absurd hh (by decide))
  have t2 : ((h : Int) == 254) = false := nbeq (by rintro rfl; exact absurd hh (by decide))
  have t3 : ((h : Int) == 255) = false := nbeq (by rintro rfl; exact absurd hh (by decide))
  clear hh
  go_enter Tryz.func66, Tryz.ntmps66
  go_wp2
  go_ret3
  exact ⟨by rw [fin.out]; rfl, rfl⟩
set_option maxHeartbeats 1000000 in
theorem read_2 (b off n cap : Nat) (t : List Nat) (hl : t.length + 1 = n) (ht : ∀ d ∈ t, d < 256) (hn : n ≤ 140737488355328) (w : World) (h0 : w.cell? ⟨b, off, none⟩ = some (.int .u8 (253 : Int))) (hc : ∀ k, k < t.length → w.cell? ⟨b, off + 1 + k, none⟩ = some (.int .u8 ((t.getD k 0 : Nat) : Int))) (hcap : n ≤ cap) :
    Calls Tryz.prog 66 #[.slice (some ⟨b, off, none⟩) n cap] w fun e w' => e = .returned (RdV3 (readS (253 :: t))) ∧ w = w' := by
  have t0 : ((n : Int) == 0) = false := by simp; omega
  have hn0 : 0 < n := by omega
  by_cases hs : t.length < 2
  · have fin := hid (readS_short (h := 253) (by decide) hs)
    have t1 : decide ((n : Int) ≤ 2) = true := by rw [decide_eq_true_eq]; omega
    clear hs hl hc
    go_enter Tryz.func66, Tryz.ntmps66
    go_wp2
    go_ret3
    exact ⟨by rw [fin.out]; rfl, rfl⟩
  · have t1 : decide ((n : Int) ≤ 2) = false := by rw [decide_eq_false_iff_not]; omega
    have hn2 : 2 < n := by omega
    clear hn0
    have HS := hid hs
    have HL := hid hl
    clear hs hl
    go_enter Tryz.func66, Tryz.ntmps66
    go_wp2
    go_loopw [7, 35] (fun x0 i0 wr => ∃ k : Nat, k ≤ 2 ∧ i0 = .int .i64 k ∧ x0 = .int .u64 ((beVal (t.take k) : Nat) : Int) ∧ wr = w) (fun _ i0 _ => 2 - (intOf i0).toNat)
    case atStart => exact ⟨0, by omega, rfl, rfl, rfl⟩
    case round =>
      obtain ⟨k, hk, rfl, rfl, rfl⟩ := hrel
      by_cases hlt : k < 2
      · have hkt : k < t.length := by have := HS.out; omega
        have st := hid (beVal_step hkt)
        have hd := getD_ltM ht (by decide) k
        have hor := or256 (beVal_take_lt ht (k := k) (by omega)) hd
        have hcx := hc k hkt
        have bx := beVal_take_lt ht (k := k) (by omega)
        generalize t.getD k 0 = d at *
        generalize beVal (t.take k) = x at *
        clear hc h0 t0 t1
        go_wp2
        go_roundw
        case rel => exact ⟨k + 1, by omega, by go_num, by rw [st.out]; go_num, trivial⟩
        case measure => simp [intOf]; omega
      · obtain rfl : k = 2 := by omega
        by_cases hv : beVal (t.take 2) < 253
        · have fin := hid (readS_form (h := 253) (by decide) HS.out hv)
          have t2 : decide ((beVal (t.take 2) : Int) < 253) = true := by rw [decide_eq_true_eq]; omega
          generalize beVal (t.take 2) = x at *
          clear hc
          go_wp2
          go_ret3
          exact ⟨by rw [fin.out]; rfl, rfl⟩
        · have fin := hid (readS_ok (h := 253) (by decide) HS.out hv)
          have t2 : decide ((beVal (t.take 2) : Int) < 253) = false := by rw [decide_eq_false_iff_not]; omega
          have e3 : folN 253 = 2 := by decide
          rw [e3] at fin
          generalize beVal (t.take 2) = x at *
          clear hc hv
          go_wp2
          go_ret3
          exact ⟨by rw [fin.out]; rfl, rfl⟩
set_option maxHeartbeats 1000000 in
theorem read_4 (b off n cap : Nat) (t : List Nat) (hl : t.length + 1 = n) (ht : ∀ d ∈ t, d < 256) (hn : n ≤ 140737488355328) (w : World) (h0 : w.cell? ⟨b, off, none⟩ = some (.int .u8 (254 : Int))) (hc : ∀ k, k < t.length → w.cell? ⟨b, off + 1 + k, none⟩ = some (.int .u8 ((t.getD k 0 : Nat) : Int))) (hcap : n ≤ cap) :
    Calls Tryz.prog 66 #[.slice (some ⟨b, off, none⟩) n cap] w fun e w' => e = .returned (RdV3 (readS (254 :: t))) ∧ w = w' := by
  have t0 : ((n : Int) == 0) = false := by simp; omega
  have hn0 : 0 < n := by omega
  by_cases hs : t.length < 4
  · have fin := hid (readS_short (h := 254) (by decide) hs)
    have t1 : decide ((n : Int) ≤ 4) = true := by rw [decide_eq_true_eq]; omega
    clear hs hl hc
    go_enter Tryz.func66, Tryz.ntmps66
    go_wp2
    go_ret3
    exact ⟨by rw [fin.out]; rfl, rfl⟩
  · have t1 : decide ((n : Int) ≤ 4) = false := by rw [decide_eq_false_iff_not]; omega
    have hn2 : 4 < n := by omega
    clear hn0
    have HS := hid hs
    have HL := hid hl
    clear hs hl
    go_enter Tryz.func66, Tryz.ntmps66
    go_wp2
    go_loopw [7, 35] (fun x0 i0 wr => ∃ k : Nat, k ≤ 4 ∧ i0 = .int .i64 k ∧ x0 = .int .u64 ((beVal (t.take k) : Nat) : Int) ∧ wr = w) (fun _ i0 _ => 4 - (intOf i0).toNat)
    case atStart => exact ⟨0, by omega, rfl, rfl, rfl⟩
    case round =>
      obtain ⟨k, hk, rfl, rfl, rfl⟩ := hrel
      by_cases hlt : k < 4
      · have hkt : k < t.length := by have := HS.out; omega
        have st := hid (beVal_step hkt)
        have hd := getD_ltM ht (by decide) k
        have hor := or256 (beVal_take_lt ht (k := k) (by omega)) hd
        have hcx := hc k hkt
        have bx := beVal_take_lt ht (k := k) (by omega)
        generalize t.getD k 0 = d at *
        generalize beVal (t.take k) = x at *
        clear hc h0 t0 t1
        go_wp2
        go_roundw
        case rel => exact ⟨k + 1, by omega, by go_num, by rw [st.out]; go_num, trivial⟩
        case measure => simp [intOf]; omega
      · obtain rfl : k = 4 := by omega
        by_cases hv : beVal (t.take 4) < 65536
        · have fin := hid (readS_form (h := 254) (by decide) HS.out hv)
          have t2 : decide ((beVal (t.take 4) : Int) < 65536) = true := by rw [decide_eq_true_eq]; omega
          generalize beVal (t.take 4) = x at *
          clear hc
          go_wp2
          go_ret3
          exact ⟨by rw [fin.out]; rfl, rfl⟩
        · have fin := hid (readS_ok (h := 254) (by decide) HS.out hv)
          have t2 : decide ((beVal (t.take 4) : Int) < 65536) = false := by rw [decide_eq_false_iff_not]; omega
          have e3 : folN 254 = 4 := by decide
          rw [e3] at fin
          generalize beVal (t.take 4) = x at *
          clear hc hv
          go_wp2
          go_ret3
          exact ⟨by rw [fin.out]; rfl, rfl⟩
set_option maxHeartbeats 1000000 in
theorem read_8 (b off n cap : Nat) (t : List Nat) (hl : t.length + 1 = n) (ht : ∀ d ∈ t, d < 256) (hn : n ≤ 140737488355328) (w : World) (h0 : w.cell? ⟨b, off, none⟩ = some (.int .u8 (255 : Int))) (hc : ∀ k, k < t.length → w.cell? ⟨b, off + 1 + k, none⟩ = some (.int .u8 ((t.getD k 0 : Nat) : Int))) (hcap : n ≤ cap) :
    Calls Tryz.prog 66 #[.slice (some ⟨b, off, none⟩) n cap] w fun e w' => e = .returned (RdV3 (readS (255 :: t))) ∧ w = w' := by
  have t0 : ((n : Int) == 0) = false := by simp; omega
  have hn0 : 0 < n := by omega
  by_cases hs : t.length < 8
  · have fin := hid (readS_short (h := 255) (by decide) hs)
    have t1 : decide ((n : Int) ≤ 8) = true := by rw [decide_eq_true_eq]; omega
    clear hs hl hc
    go_enter Tryz.func66, Tryz.ntmps66
    go_wp2
    go_ret3
    exact ⟨by rw [fin.out]; rfl, rfl⟩
  · have t1 : decide ((n : Int) ≤ 8) = false := by rw [decide_eq_false_iff_not]; omega
    have hn2 : 8 < n := by omega
    clear hn0
    have HS := hid hs
    have HL := hid hl
    clear hs hl
    go_enter Tryz.func66, Tryz.ntmps66
    go_wp2
    go_loopw [7, 35] (fun x0 i0 wr => ∃ k : Nat, k ≤ 8 ∧ i0 = .int .i64 k ∧ x0 = .int .u64 ((beVal (t.take k) : Nat) : Int) ∧ wr = w) (fun _ i0 _ => 8 - (intOf i0).toNat)
    case atStart => exact ⟨0, by omega, rfl, rfl, rfl⟩
    case round =>
      obtain ⟨k, hk, rfl, rfl, rfl⟩ := hrel
      by_cases hlt : k < 8
      · have hkt : k < t.length := by have := HS.out; omega
        have st := hid (beVal_step hkt)
        have hd := getD_ltM ht (by decide) k
        have hor := or256 (beVal_take_lt ht (k := k) (by omega)) hd
        have hcx := hc k hkt
        have bx := beVal_take_lt ht (k := k) (by omega)
        generalize t.getD k 0 = d at *
        generalize beVal (t.take k) = x at *
        clear hc h0 t0 t1
        go_wp2
        go_roundw
        case rel => exact ⟨k + 1, by omega, by go_num, by rw [st.out]; go_num, trivial⟩
        case measure => simp [intOf]; omega
      · obtain rfl : k = 8 := by omega
        by_cases hv : beVal (t.take 8) < 4294967296
        · have fin := hid (readS_form (h := 255) (by decide) HS.out hv)
          have t2 : decide ((beVal (t.take 8) : Int) < 4294967296) = true := by rw [decide_eq_true_eq]; omega
          generalize beVal (t.take 8) = x at *
          clear hc
          go_wp2
          go_ret3
          exact ⟨by rw [fin.out]; rfl, rfl⟩
        · have fin := hid (readS_ok (h := 255) (by decide) HS.out hv)
          have t2 : decide ((beVal (t.take 8) : Int) < 4294967296) = false := by rw [decide_eq_false_iff_not]; omega
          have e3 : folN 255 = 8 := by decide
          rw [e3] at fin
          generalize beVal (t.take 8) = x at *
          clear hc hv
          go_wp2
          go_ret3
          exact ⟨by rw [fin.out]; rfl, rfl⟩
theorem read_walk (a : Option Addr) (n cap : Nat) (xs : List Nat) (hx : ∀ d ∈ xs, d < 256) (hn : n ≤ 140737488355328) (w : World) (hS : Sl .u8 w a n cap xs) :
    Calls Tryz.prog 66 #[.slice a n cap] w fun e w' => e = .returned (RdV3 (readS xs)) ∧ w = w' := by
  have hl := hS.len
  have hcap := hS.2.1
  obtain ⟨b, off, ha, hc⟩ := hS.opened
  cases xs with
  | nil =>
    obtain rfl : n = 0 := by simpa using hl.symm
    exact read_nil a cap w
  | cons h t =>
    obtain rfl := ha (by rw [← hl]; simp)
    obtain ⟨h0, ht⟩ := cell_tail hl hc
    have hh := hx h (by simp)
    have hx' : ∀ d ∈ t, d < 256 := fun d hd => hx d (by simp [hd])
    by_cases h1 : h = 253
    · subst h1; exact read_2 b off n cap t hl hx' hn w h0 ht hcap
    · by_cases h2 : h = 254
      · subst h2; exact read_4 b off n cap t hl hx' hn w h0 ht hcap
      · by_cases h3 : h = 255
        · subst h3; exact read_8 b off n cap t hl hx' hn w h0 ht hcap
        · exact read_one b off n cap h t (by simp [folN, h1, h2, h3]) hh (by rw [← hl]; simp) w h0
end Go.Proofs.YtnophelfpoldfaaGreatDoor
