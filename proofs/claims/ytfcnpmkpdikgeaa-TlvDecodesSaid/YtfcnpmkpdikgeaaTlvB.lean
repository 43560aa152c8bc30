/- The walks of the statements TlvReads, TlvNumbers. -/
import Derived.Test.YtfcnpmkpdikgeaaRdR
import Derived.Test.YtfcnpmkpdikgeaaTlvA
namespace Go.Proofs.Ytfcnpmkpdikgeaa
open Go.RowKit

theorem readS79 : readS [7, 9] = (7, 1, 0) := by decide
set_option maxHeartbeats 400000 in
theorem lawReads (a : Option Addr) (n cap : Nat) (xs : List Nat) (hx : ∀ d ∈ xs, d < 256) (hz : n * 1 ≤ 140737488351232) (w : World) (h : Sl .u8 w a n cap xs) :
    Calls Try.prog 4 #[.slice a n cap] w fun e w' => e = .returned (.bool true) ∧ Below w.heap.size w w' := by
  have hn : n ≤ 140737488355328 := by omega
  have S1 := hid (sl_lit .u8 w #[.int .u8 7, .int .u8 9] 5 [7, 9] rfl rfl (by decide))
  have bb := (Below.refl w.heap.size w).alloc (Nat.le_refl _) (.cells #[.int .u8 7, .int .u8 9] 5)
  have S0 := hid (h.below bb)
  have HL := hid h.len
  have C1 := fun wx (hw : Sl .u8 wx a n cap xs) => hid (copy_walk a n cap xs hn wx hw)
  have C2 := fun wx ax cx (hw : Sl .u8 wx ax xs.length cx xs) => hid (read_walk ax xs.length cx xs hx (by rw [HL.out]; exact hn) wx hw)
  have C3 := fun wx (hw : Sl .u8 wx a n cap xs) => hid (rread_walk a n cap xs hx hn wx hw)
  have C4 := fun wx ax cx (h1 : Sl .u8 wx ax xs.length cx xs) (h2 : Sl .u8 wx a n cap xs) => hid (same_self ax a xs.length cx n cap xs hx wx h1 h2)
  clear h hz
  go_enter Try.func4, Try.ntmps4
  go_wp2_with fail
  refine (read_walk _ _ _ [7, 9] (by simp) (by decide) _ S1.out).mono ?_
  rintro e w1 ⟨rfl, rfl⟩
  rw [readS79, RdV3]
  go_wp2_with fail
  refine (C1 _ S0.out).out.mono ?_
  rintro e w1 ⟨v, rfl, _, hown, b1⟩
  obtain ⟨a1, c1, rfl, s1⟩ := SlV.of_owns hown
  have S2 := hid (S0.out.below b1)
  have bw := bb.trans (b1.mono bb.size)
  clear hown S0 S1 bb
  go_wp2_with fail
  refine (C2 _ _ _ s1).out.mono ?_
  rintro e w2 ⟨rfl, rfl⟩
  rw [RdV3]
  go_wp2_with fail
  refine (C3 _ S2.out).out.mono ?_
  rintro e w3 ⟨rfl, b3⟩
  rw [RdV3]
  have s1' := s1.below b3
  have S3 := S2.out.below b3
  have bw' := bstep bw b3
  clear s1 S2
  go_wp2_with fail
  refine (C4 _ _ _ s1' S3).out.mono ?_
  rintro e w4 ⟨rfl, rfl⟩
  go_wp2
  go_ret
  exact ⟨rfl, bw'⟩

theorem beVal_be (n x : Nat) : beVal (be n x) = x % 256 ^ n := by
  induction n generalizing x with
  | zero => simp [be, beVal, Nat.mod_one]
  | succ n ih =>
    have key : ∀ (l : List Nat) (s : Nat), l.foldl (fun x c => x * 256 + c) s = s * 256 ^ l.length + l.foldl (fun x c => x * 256 + c) 0 := by
      intro l
      induction l with
      | nil => simp
      | cons c r ih =>
        intro s
        simp only [List.foldl_cons, List.length_cons]
        rw [ih (s * 256 + c), ih (0 * 256 + c), Nat.pow_succ]
        generalize 256 ^ r.length = p
        rw [Nat.add_mul, Nat.zero_mul, Nat.zero_add, Nat.mul_assoc, Nat.mul_comm 256 p, Nat.add_assoc]
    show List.foldl _ _ (be (n + 1) x) = _
    rw [be, List.foldl_cons, key, be_length]
    have := ih x
    unfold beVal at this
    rw [this, Nat.zero_mul, Nat.zero_add, Nat.pow_succ, Nat.mod_mul]
    generalize 256 ^ n = p
    rw [Nat.mul_comm, Nat.add_comm]
theorem readS_size (x : Nat) (hx : x < 18446744073709551616) (ys : List Nat) : readS (size x ++ ys) = (x, (size x).length, 0) := by
  unfold size
  split
  · rename_i h
    show readS (x :: ys) = _
    rw [readS_one _ (by unfold folN; (repeat' split) <;> omega)]
    rfl
  · rename_i h1
    split
    · rename_i h2
      show readS (253 :: (be 2 x ++ ys)) = _
      have e : (be 2 x ++ ys).take (folN 253) = be 2 x := List.take_left' (be_length 2 x)
      rw [readS_ok (by decide) (by rw [List.length_append, be_length]; have : folN 253 = 2 := rfl; omega) (by rw [e, beVal_be, show folL 253 = 253 from rfl]; omega), e, beVal_be]
      simp [be_length, folN]
      omega
    · rename_i h2
      split
      · rename_i h3
        show readS (254 :: (be 4 x ++ ys)) = _
        have e : (be 4 x ++ ys).take (folN 254) = be 4 x := List.take_left' (be_length 4 x)
        rw [readS_ok (by decide) (by rw [List.length_append, be_length]; have : folN 254 = 4 := rfl; omega) (by rw [e, beVal_be, show folL 254 = 65536 from rfl]; omega), e, beVal_be]
        simp [be_length, folN]
        omega
      · rename_i h3
        show readS (255 :: (be 8 x ++ ys)) = _
        have e : (be 8 x ++ ys).take (folN 255) = be 8 x := List.take_left' (be_length 8 x)
        rw [readS_ok (by decide) (by rw [List.length_append, be_length]; have : folN 255 = 8 := rfl; omega) (by rw [e, beVal_be, show folL 255 = 4294967296 from rfl]; omega), e, beVal_be]
        simp [be_length, folN]
        omega
theorem readS_cut (x : Nat) (k : Nat) (hk : k < (size x).length) : readS ((size x).take k) = (0, 0, 20) := by
  unfold size at *
  cases k with
  | zero => rfl
  | succ k =>
    split at hk
    · simp at hk
    · rename_i h1
      rw [if_neg h1]
      split at hk
      · rename_i h2
        rw [if_pos h2]
        rw [List.take_succ_cons]
        exact readS_short (by decide) (by simp [be_length, folN] at *; omega)
      · rename_i h2
        rw [if_neg h2]
        split at hk
        · rename_i h3
          rw [if_pos h3, List.take_succ_cons]
          exact readS_short (by decide) (by simp [be_length, folN] at *; omega)
        · rename_i h3
          rw [if_neg h3, List.take_succ_cons]
          exact readS_short (by decide) (by simp [be_length, folN] at *; omega)
theorem size_len_bd (x : Nat) : 1 ≤ (size x).length ∧ (size x).length ≤ 9 := by
  rw [size_len]
  (repeat' split) <;> omega
set_option maxHeartbeats 2000000 in
theorem lawNumbers (x : Nat) (a : Option Addr) (n cap : Nat) (xs : List Nat) (hX : x < 18446744073709551616) (hx : ∀ d ∈ xs, d < 256) (hz : n * 1 ≤ 140737488351232) (w : World) (h : Sl .u8 w a n cap xs) :
    Calls Try.prog 6 #[.int .u64 x, .slice a n cap] w fun e w' => e = .returned (.bool true) ∧ Below w.heap.size w w' := by
  have hn : n ≤ 140737488351232 := by omega
  have HL := hid h.len
  obtain ⟨hl1, hl9⟩ := size_len_bd x
  have hs := readS_size x hX xs
  have hk := readS_cut x ((size x).length - 1) (by omega)
  have hlt := size_lt x
  have C0 := fun wx => hid (size_walk x hX wx)
  generalize size x = ys at *
  have hall : ∀ d ∈ ys ++ xs, d < 256 := fun d hd => (List.mem_append.1 hd).elim (hlt d) (hx d)
  have C1 := fun wx ax cx (hw : Sl .u8 wx ax ys.length cx ys) => hid (copy_walk ax ys.length cx ys (by omega) wx hw)
  have hzl : (ys ++ xs).length = ys.length + n := by rw [List.length_append, HL.out]
  obtain ⟨zs, he⟩ : ∃ zs, ys ++ xs = zs := ⟨_, rfl⟩
  have HZ := hid he
  rw [he] at hs hall hzl
  clear he
  have C2 := fun wx ax cx (hw : Sl .u8 wx ax zs.length cx zs) => hid (read_walk ax zs.length cx zs hall (by omega) wx hw)
  have HZL := hid hzl
  clear hzl
  have C3 := fun wx ax cx (hw : Sl .u8 wx ax (ys.length - 1) cx (ys.take (ys.length - 1))) => hid (read_walk ax (ys.length - 1) cx (ys.take (ys.length - 1)) (fun d hd => hlt d (List.mem_of_mem_take hd)) (by omega) wx hw)
  rw [hs] at C2
  rw [hk] at C3
  have hsub : ((ys.length : Int) - 1) = ((ys.length - 1 : Nat) : Int) := by omega
  have HI := hid h
  clear h hz hs hk hlt hall
  go_enter Try.func6, Try.ntmps6
  go_wp2_with fail
  refine (sizefn_walk _).mono ?_
  rintro e w0 ⟨rfl, b0⟩
  go_wp2_with fail
  refine (C0 _).out.mono ?_
  rintro e w1 ⟨v, rfl, hown, b1⟩
  obtain ⟨a1, c1, rfl, s1⟩ := SlV.of_owns hown
  have bw := bstep b0 b1
  clear hown b0 b1
  go_wp2_with fail
  refine (C1 _ _ _ s1).out.mono ?_
  rintro e w2 ⟨v, rfl, hne, hown, b2⟩
  have S1 := hid s1
  have hc1 : ys.length ≤ c1 := s1.2.1
  have bw2 := bstep bw b2
  have SI := hid (HI.out.below bw2)
  have hb2 := b2.size
  clear s1 HI hne
  go_wp2_with (at_builtin; refine wpList_cat rfl _ _ 25 rfl tyBs w1.heap.size hown rfl rfl SI.out (nums_oneCell _ _) ?c1 ?c2 ?c3 ?_)
  case c1 => omega
  case c2 => unfold maxLen; omega
  case c3 => exact hb2
  intro v3 w3 hown3 hb3 hs3 _
  rw [nums_append, HZ.out] at hown3
  have hown4 : w3.ownsRow w1.heap.size 5 1 v3 zs.length (nums .u8 zs) := by rw [HZL.out]; exact hown3
  obtain ⟨a3, c3, rfl, s3⟩ := SlV.of_owns hown4
  have bw3 := bw.trans ((b2.trans hb3).mono bw.size)
  have S3 := hid ((S1.out.below (b2.trans hb3)).take (m := ys.length - 1) (by omega))
  clear hown hown3 hown4 hb3 hs3 b2 bw bw2 SI
  go_wp2_with fail
  refine (C2 _ _ _ s3).out.mono ?_
  rintro e w4 ⟨rfl, rfl⟩
  rw [RdV3]
  clear s3
  go_wp2_with fail
  refine (C3 _ _ _ S3.out).out.mono ?_
  rintro e w5 ⟨rfl, rfl⟩
  rw [RdV3]
  go_wp2
  go_ret
  exact ⟨rfl, bw3⟩
end Go.Proofs.Ytfcnpmkpdikgeaa
