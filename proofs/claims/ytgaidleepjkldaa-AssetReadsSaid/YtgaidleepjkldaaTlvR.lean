/- Contract of the reference's Size; the statement TlvSizes. -/
import Derived.Test.YtgaidleepjkldaaTlv
namespace Go.Proofs.Ytgaidleepjkldaa
open Go.RowKit

theorem be_bound (n x : Nat) : (be n x).length = n := be_length n x
theorem shr_bound {x i : Nat} (hx : x < 18446744073709551616) : x / 256 ^ i < 18446744073709551616 := Nat.lt_of_le_of_lt (Nat.div_le_self _ _) hx
theorem pow_succ_div (x i : Nat) : x / 256 ^ (i + 1) = x / 256 ^ i / 256 := by rw [Nat.pow_succ, Nat.div_div_eq_div_mul]

set_option maxHeartbeats 1000000 in
theorem rsize_small (x : Nat) (h1 : x < 253) (w : World) : Calls Try.prog 29 #[.int .u64 x] w (BytesRes w (size x)) := by
  have e : size x = [x] := by unfold size; rw [if_pos h1]
  rw [e]
  have t1 : decide ((x : Int) < 253) = true := by rw [decide_eq_true_eq]; omega
  have t2 : decide ((x : Int) < 65536) = true := by rw [decide_eq_true_eq]; omega
  have t3 : decide ((x : Int) < 4294967296) = true := by rw [decide_eq_true_eq]; omega
  have t4 : (x : Int) ≤ 252 := by omega
  clear h1 e
  have F := fun W (hb : Below w.heap.size w W) => hid (show BytesRes w [x] (.returned (.slice (some ⟨W.heap.size, 0, none⟩) 1 1)) (W.alloc (.cells #[.int .u8 (x : Int)] 5)) from ⟨_, rfl, own_lit .u8 W #[.int .u8 (x : Int)] 5 (B := w.heap.size) (n := 1) [x] rfl rfl hb.size (by decide), hb.alloc hb.size _⟩)
  have FF := F _ ((((Below.refl w.heap.size w).alloc (Nat.le_refl _) (.cells #[.int .u8 255] 5)).alloc (by simp <;> omega) (.cells #[.int .u8 254] 5)).alloc (by simp <;> omega) (.cells #[.int .u8 253] 5))
  clear F
  go_enter Try.func29, Try.ntmps29
  go_wp2
  go_ret
  simpa using FF.out

set_option maxHeartbeats 2000000 in
theorem rsize_2 (x : Nat) (hx : x < 18446744073709551616) (h1 : ¬ x < 253) (h2 : x < 65536) (w : World) : Calls Try.prog 29 #[.int .u64 x] w (BytesRes w (size x)) := by
  have e : size x = [253] ++ be 2 x := by unfold size; rw [if_neg h1, if_pos h2]; rfl
  rw [e]
  have t1 : decide ((x : Int) < 253) = false := by rw [decide_eq_false_iff_not]; omega
  have t2 : decide ((x : Int) < 65536) = true := by rw [decide_eq_true_eq]; omega
  have t3 : decide ((x : Int) < 4294967296) = true := by rw [decide_eq_true_eq]; omega
  clear h1 h2
  clear e
  have OH := own_lit .u8 ((w.alloc (.cells #[.int .u8 255] 5)).alloc (.cells #[.int .u8 254] 5)) #[.int .u8 253] 5 (B := w.heap.size) (n := 1) [253] rfl rfl (by simp <;> omega) (by decide)
  have BB := ((((Below.refl w.heap.size w).alloc (by simp <;> omega) (.cells #[.int .u8 255] 5)).alloc (by simp <;> omega) (.cells #[.int .u8 254] 5)).alloc (by simp <;> omega) (.cells #[.int .u8 253] 5))
  have hs0 := shr_bound (i := 0) hx
  generalize hW : (((w.alloc (.cells #[.int .u8 255] 5)).alloc (.cells #[.int .u8 254] 5)).alloc (.cells #[.int .u8 253] 5)) = W at *
  have OH' := own_below OH ((Below.refl W.heap.size W).alloc (Nat.le_refl _) (.cells #[] 5))
  have BB' := BB.alloc BB.size (.cells #[] 5)
  have ST : SlV .u8 (W.alloc (.cells #[] 5)) (.slice (some ⟨W.heap.size, 0, none⟩) 0 0) [] := (Sl.nilS _ _ (by omega) (fun e => by cases e)).toV
  subst hW
  have O := hid OH'
  have B0 := hid BB'
  have S0 := hid ST
  clear OH OH' BB BB' ST hs0
  go_enter Try.func29, Try.ntmps29
  go_wp2
  go_loopw [0, 5, 6] (fun x0 v i0 wr => ∃ i : Nat, i ≤ 2 ∧ i0 = .int .i64 i ∧ x0 = .int .u64 ((x / 256 ^ i : Nat) : Int) ∧ SlV .u8 wr v (be i x) ∧ Below w.heap.size w wr ∧ Hid (∃ g, True ∧ wr.ownsRow w.heap.size 5 1 (.slice (some ⟨g, 0, none⟩) 1 1) 1 (nums .u8 [253]) ∧ g = w.heap.size + 2)) (fun _ _ i0 _ => 2 - (intOf i0).toNat)
  case atStart => exact ⟨0, by omega, rfl, by simp, by simpa [be] using S0.out, by simpa using B0.out, hid ⟨_, trivial, by simpa using O.out, rfl⟩⟩
  case round =>
    clear O B0 S0 t1 t2 t3
    obtain ⟨i, hi, rfl, rfl, ⟨at1, ct, rfl, st⟩, hbw, hO⟩ := hrel
    by_cases hlt : i < 2
    · have hxi := shr_bound (i := i) hx
      have hxs := hid (pow_succ_div x i)
      have hbe := hid (show [x / 256 ^ i % 256] ++ be i x = be (i + 1) x from rfl)
      have hbl := be_length i x
      generalize x / 256 ^ i = xi at *
      generalize be i x = ts at *
      have HBL := hid hbl
      have hil : ts.length ≤ 8 := by omega
      clear hbl
      have O1 := hid (own_lit .u8 wr #[.int .u8 ((xi : Int) % 256)] 5 (B := wr.heap.size) (n := 1) [xi % 256] rfl rfl (Nat.le_refl _) (by decide))
      have bb := (Below.refl wr.heap.size wr).alloc (Nat.le_refl _) (.cells #[.int .u8 ((xi : Int) % 256)] 5)
      have S1 := hid (st.below bb)
      clear st
      go_wp2_with (at_builtin; refine wpList_cat rfl _ _ 26 rfl tyBs wr.heap.size O1.out rfl rfl S1.out (nums_oneCell _ _) ?c1 ?c2 ?c3 ?_)
      case c1 => omega
      case c2 => unfold maxLen; omega
      case c3 => simp
      intro v1 w1 hown1 hb1 hs1 _
      rw [nums_append] at hown1
      have sv := SlV.of_owns hown1
      rw [hbe.out] at sv
      have b1 : Below wr.heap.size wr w1 := bb.trans hb1
      have hO' := hid (show ∃ g, True ∧ w1.ownsRow w.heap.size 5 1 (.slice (some ⟨g, 0, none⟩) 1 1) 1 (nums .u8 [253]) ∧ g = w.heap.size + 2 by
        obtain ⟨g, _, o, e⟩ := hO.out
        exact ⟨g, trivial, own_below o b1, e⟩)
      have hb' := bstep hbw b1
      clear hown1 hb1 hs1 bb S1 O1 hO b1 hbw
      go_wp2
      go_roundw
      case rel => exact ⟨i + 1, by omega, by go_num, by rw [hxs.out]; go_num, sv, hb', hO'⟩
      case measure => simp [intOf]; omega
    · obtain rfl : i = 2 := by omega
      obtain ⟨g, _, o, rfl⟩ := hO.out
      have hbl := be_length 2 x
      have OO := hid o
      have SS := hid st
      have hln : (be 2 x).length ≤ 8 := by omega
      generalize be 2 x = ts at *
      clear hO o st hbl
      go_wp2_with (at_builtin; refine wpList_cat rfl _ _ 26 rfl tyBs w.heap.size OO.out rfl rfl SS.out (nums_oneCell _ _) ?k1 ?k2 ?k3 ?_)
      case k1 => omega
      case k2 => unfold maxLen; omega
      case k3 => exact hbw.size
      intro v1 w1 hown1 hb1 hs1 _
      rw [nums_append] at hown1
      have F := hid (show BytesRes w ([253] ++ ts) (.returned v1) w1 from ⟨v1, rfl, by simpa [Nat.add_comm] using hown1, hbw.trans hb1⟩)
      clear hown1 hb1 hs1
      go_wp2
      go_ret
      exact F.out
set_option maxHeartbeats 2000000 in
theorem rsize_4 (x : Nat) (hx : x < 18446744073709551616) (h1 : ¬ x < 253) (h2 : ¬ x < 65536) (h3 : x < 4294967296) (w : World) : Calls Try.prog 29 #[.int .u64 x] w (BytesRes w (size x)) := by
  have e : size x = [254] ++ be 4 x := by unfold size; rw [if_neg h1, if_neg h2, if_pos h3]; rfl
  rw [e]
  have t1 : decide ((x : Int) < 253) = false := by rw [decide_eq_false_iff_not]; omega
  have t2 : decide ((x : Int) < 65536) = false := by rw [decide_eq_false_iff_not]; omega
  have t3 : decide ((x : Int) < 4294967296) = true := by rw [decide_eq_true_eq]; omega
  clear h1 h2 h3
  clear e
  have OH := own_lit .u8 (w.alloc (.cells #[.int .u8 255] 5)) #[.int .u8 254] 5 (B := w.heap.size) (n := 1) [254] rfl rfl (by simp <;> omega) (by decide)
  have BB := (((Below.refl w.heap.size w).alloc (by simp <;> omega) (.cells #[.int .u8 255] 5)).alloc (by simp <;> omega) (.cells #[.int .u8 254] 5))
  have hs0 := shr_bound (i := 0) hx
  generalize hW : ((w.alloc (.cells #[.int .u8 255] 5)).alloc (.cells #[.int .u8 254] 5)) = W at *
  have OH' := own_below OH ((Below.refl W.heap.size W).alloc (Nat.le_refl _) (.cells #[] 5))
  have BB' := BB.alloc BB.size (.cells #[] 5)
  have ST : SlV .u8 (W.alloc (.cells #[] 5)) (.slice (some ⟨W.heap.size, 0, none⟩) 0 0) [] := (Sl.nilS _ _ (by omega) (fun e => by cases e)).toV
  subst hW
  have O := hid OH'
  have B0 := hid BB'
  have S0 := hid ST
  clear OH OH' BB BB' ST hs0
  go_enter Try.func29, Try.ntmps29
  go_wp2
  go_loopw [0, 5, 6] (fun x0 v i0 wr => ∃ i : Nat, i ≤ 4 ∧ i0 = .int .i64 i ∧ x0 = .int .u64 ((x / 256 ^ i : Nat) : Int) ∧ SlV .u8 wr v (be i x) ∧ Below w.heap.size w wr ∧ Hid (∃ g, True ∧ wr.ownsRow w.heap.size 5 1 (.slice (some ⟨g, 0, none⟩) 1 1) 1 (nums .u8 [254]) ∧ g = w.heap.size + 1)) (fun _ _ i0 _ => 4 - (intOf i0).toNat)
  case atStart => exact ⟨0, by omega, rfl, by simp, by simpa [be] using S0.out, by simpa using B0.out, hid ⟨_, trivial, by simpa using O.out, rfl⟩⟩
  case round =>
    clear O B0 S0 t1 t2 t3
    obtain ⟨i, hi, rfl, rfl, ⟨at1, ct, rfl, st⟩, hbw, hO⟩ := hrel
    by_cases hlt : i < 4
    · have hxi := shr_bound (i := i) hx
      have hxs := hid (pow_succ_div x i)
      have hbe := hid (show [x / 256 ^ i % 256] ++ be i x = be (i + 1) x from rfl)
      have hbl := be_length i x
      generalize x / 256 ^ i = xi at *
      generalize be i x = ts at *
      have HBL := hid hbl
      have hil : ts.length ≤ 8 := by omega
      clear hbl
      have O1 := hid (own_lit .u8 wr #[.int .u8 ((xi : Int) % 256)] 5 (B := wr.heap.size) (n := 1) [xi % 256] rfl rfl (Nat.le_refl _) (by decide))
      have bb := (Below.refl wr.heap.size wr).alloc (Nat.le_refl _) (.cells #[.int .u8 ((xi : Int) % 256)] 5)
      have S1 := hid (st.below bb)
      clear st
      go_wp2_with (at_builtin; refine wpList_cat rfl _ _ 26 rfl tyBs wr.heap.size O1.out rfl rfl S1.out (nums_oneCell _ _) ?c1 ?c2 ?c3 ?_)
      case c1 => omega
      case c2 => unfold maxLen; omega
      case c3 => simp
      intro v1 w1 hown1 hb1 hs1 _
      rw [nums_append] at hown1
      have sv := SlV.of_owns hown1
      rw [hbe.out] at sv
      have b1 : Below wr.heap.size wr w1 := bb.trans hb1
      have hO' := hid (show ∃ g, True ∧ w1.ownsRow w.heap.size 5 1 (.slice (some ⟨g, 0, none⟩) 1 1) 1 (nums .u8 [254]) ∧ g = w.heap.size + 1 by
        obtain ⟨g, _, o, e⟩ := hO.out
        exact ⟨g, trivial, own_below o b1, e⟩)
      have hb' := bstep hbw b1
      clear hown1 hb1 hs1 bb S1 O1 hO b1 hbw
      go_wp2
      go_roundw
      case rel => exact ⟨i + 1, by omega, by go_num, by rw [hxs.out]; go_num, sv, hb', hO'⟩
      case measure => simp [intOf]; omega
    · obtain rfl : i = 4 := by omega
      obtain ⟨g, _, o, rfl⟩ := hO.out
      have hbl := be_length 4 x
      have OO := hid o
      have SS := hid st
      have hln : (be 4 x).length ≤ 8 := by omega
      generalize be 4 x = ts at *
      clear hO o st hbl
      go_wp2_with (at_builtin; refine wpList_cat rfl _ _ 26 rfl tyBs w.heap.size OO.out rfl rfl SS.out (nums_oneCell _ _) ?k1 ?k2 ?k3 ?_)
      case k1 => omega
      case k2 => unfold maxLen; omega
      case k3 => exact hbw.size
      intro v1 w1 hown1 hb1 hs1 _
      rw [nums_append] at hown1
      have F := hid (show BytesRes w ([254] ++ ts) (.returned v1) w1 from ⟨v1, rfl, by simpa [Nat.add_comm] using hown1, hbw.trans hb1⟩)
      clear hown1 hb1 hs1
      go_wp2
      go_ret
      exact F.out
set_option maxHeartbeats 2000000 in
theorem rsize_8 (x : Nat) (hx : x < 18446744073709551616) (h1 : ¬ x < 253) (h2 : ¬ x < 65536) (h3 : ¬ x < 4294967296) (w : World) : Calls Try.prog 29 #[.int .u64 x] w (BytesRes w (size x)) := by
  have e : size x = [255] ++ be 8 x := by unfold size; rw [if_neg h1, if_neg h2, if_neg h3]; rfl
  rw [e]
  have t1 : decide ((x : Int) < 253) = false := by rw [decide_eq_false_iff_not]; omega
  have t2 : decide ((x : Int) < 65536) = false := by rw [decide_eq_false_iff_not]; omega
  have t3 : decide ((x : Int) < 4294967296) = false := by rw [decide_eq_false_iff_not]; omega
  clear h1 h2 h3
  clear e
  have OH := own_lit .u8 w #[.int .u8 255] 5 (B := w.heap.size) (n := 1) [255] rfl rfl (by simp <;> omega) (by decide)
  have BB := ((Below.refl w.heap.size w).alloc (by simp <;> omega) (.cells #[.int .u8 255] 5))
  have hs0 := shr_bound (i := 0) hx
  generalize hW : (w.alloc (.cells #[.int .u8 255] 5)) = W at *
  have OH' := own_below OH ((Below.refl W.heap.size W).alloc (Nat.le_refl _) (.cells #[] 5))
  have BB' := BB.alloc BB.size (.cells #[] 5)
  have ST : SlV .u8 (W.alloc (.cells #[] 5)) (.slice (some ⟨W.heap.size, 0, none⟩) 0 0) [] := (Sl.nilS _ _ (by omega) (fun e => by cases e)).toV
  subst hW
  have O := hid OH'
  have B0 := hid BB'
  have S0 := hid ST
  clear OH OH' BB BB' ST hs0
  go_enter Try.func29, Try.ntmps29
  go_wp2
  go_loopw [0, 5, 6] (fun x0 v i0 wr => ∃ i : Nat, i ≤ 8 ∧ i0 = .int .i64 i ∧ x0 = .int .u64 ((x / 256 ^ i : Nat) : Int) ∧ SlV .u8 wr v (be i x) ∧ Below w.heap.size w wr ∧ Hid (∃ g, True ∧ wr.ownsRow w.heap.size 5 1 (.slice (some ⟨g, 0, none⟩) 1 1) 1 (nums .u8 [255]) ∧ g = w.heap.size)) (fun _ _ i0 _ => 8 - (intOf i0).toNat)
  case atStart => exact ⟨0, by omega, rfl, by simp, by simpa [be] using S0.out, by simpa using B0.out, hid ⟨_, trivial, by simpa using O.out, rfl⟩⟩
  case round =>
    clear O B0 S0 t1 t2 t3
    obtain ⟨i, hi, rfl, rfl, ⟨at1, ct, rfl, st⟩, hbw, hO⟩ := hrel
    by_cases hlt : i < 8
    · have hxi := shr_bound (i := i) hx
      have hxs := hid (pow_succ_div x i)
      have hbe := hid (show [x / 256 ^ i % 256] ++ be i x = be (i + 1) x from rfl)
      have hbl := be_length i x
      generalize x / 256 ^ i = xi at *
      generalize be i x = ts at *
      have HBL := hid hbl
      have hil : ts.length ≤ 8 := by omega
      clear hbl
      have O1 := hid (own_lit .u8 wr #[.int .u8 ((xi : Int) % 256)] 5 (B := wr.heap.size) (n := 1) [xi % 256] rfl rfl (Nat.le_refl _) (by decide))
      have bb := (Below.refl wr.heap.size wr).alloc (Nat.le_refl _) (.cells #[.int .u8 ((xi : Int) % 256)] 5)
      have S1 := hid (st.below bb)
      clear st
      go_wp2_with (at_builtin; refine wpList_cat rfl _ _ 26 rfl tyBs wr.heap.size O1.out rfl rfl S1.out (nums_oneCell _ _) ?c1 ?c2 ?c3 ?_)
      case c1 => omega
      case c2 => unfold maxLen; omega
      case c3 => simp
      intro v1 w1 hown1 hb1 hs1 _
      rw [nums_append] at hown1
      have sv := SlV.of_owns hown1
      rw [hbe.out] at sv
      have b1 : Below wr.heap.size wr w1 := bb.trans hb1
      have hO' := hid (show ∃ g, True ∧ w1.ownsRow w.heap.size 5 1 (.slice (some ⟨g, 0, none⟩) 1 1) 1 (nums .u8 [255]) ∧ g = w.heap.size by
        obtain ⟨g, _, o, e⟩ := hO.out
        exact ⟨g, trivial, own_below o b1, e⟩)
      have hb' := bstep hbw b1
      clear hown1 hb1 hs1 bb S1 O1 hO b1 hbw
      go_wp2
      go_roundw
      case rel => exact ⟨i + 1, by omega, by go_num, by rw [hxs.out]; go_num, sv, hb', hO'⟩
      case measure => simp [intOf]; omega
    · obtain rfl : i = 8 := by omega
      obtain ⟨g, _, o, rfl⟩ := hO.out
      have hbl := be_length 8 x
      have OO := hid o
      have SS := hid st
      have hln : (be 8 x).length ≤ 8 := by omega
      generalize be 8 x = ts at *
      clear hO o st hbl
      go_wp2_with (at_builtin; refine wpList_cat rfl _ _ 26 rfl tyBs w.heap.size OO.out rfl rfl SS.out (nums_oneCell _ _) ?k1 ?k2 ?k3 ?_)
      case k1 => omega
      case k2 => unfold maxLen; omega
      case k3 => exact hbw.size
      intro v1 w1 hown1 hb1 hs1 _
      rw [nums_append] at hown1
      have F := hid (show BytesRes w ([255] ++ ts) (.returned v1) w1 from ⟨v1, rfl, by simpa [Nat.add_comm] using hown1, hbw.trans hb1⟩)
      clear hown1 hb1 hs1
      go_wp2
      go_ret
      exact F.out
theorem rsize_walk (x : Nat) (hx : x < 18446744073709551616) (w : World) : Calls Try.prog 29 #[.int .u64 x] w (BytesRes w (size x)) := by
  by_cases h1 : x < 253
  · exact rsize_small x h1 w
  · by_cases h2 : x < 65536
    · exact rsize_2 x hx h1 h2 w
    · by_cases h3 : x < 4294967296
      · exact rsize_4 x hx h1 h2 h3 w
      · exact rsize_8 x hx h1 h2 h3 w
end Go.Proofs.Ytgaidleepjkldaa
