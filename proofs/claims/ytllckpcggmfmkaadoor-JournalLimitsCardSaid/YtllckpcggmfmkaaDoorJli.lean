/- JournalLimits: what is too long is refused; a disk that is too small; a nil journal. -/
import Derived.Test.YtllckpcggmfmkaaDoorJrra
namespace Go.Proofs.YtllckpcggmfmkaaDoor
open Go.RowKit

theorem and7 (n : Int) : bits .and .i64 n 7 = n % 8 := by
  have h127 : (BitVec.ofInt 64 7).toNat = 2 ^ 3 - 1 := by decide
  have key : (BitVec.ofInt 64 n &&& BitVec.ofInt 64 7).toNat = (n % ((2 ^ 64 : Nat) : Int)).toNat % 2 ^ 3 := by
    rw [BitVec.toNat_and, BitVec.toNat_ofInt, h127, Nat.and_two_pow_sub_one_eq_mod]
  show IntKind.i64.wrap ((BitVec.ofInt 64 n &&& BitVec.ofInt 64 7).toNat : Nat) = n % 8
  rw [key, IntKind.wrap_i64]
  omega
set_option maxRecDepth 100000 in
set_option maxHeartbeats 8000000 in
theorem lawLimits (x : Int) (_hm : (Lit.int .i64 x).wf = true) (w : World) (ht : Tabs w) :
    Calls Tryd.prog 4 #[.int .i64 x] w fun e w' => e = .returned (.bool true) ∧ Below w.heap.size w w' := by
  have HT := hid ht
  clear ht
  obtain ⟨k, hk1, hk2⟩ : ∃ k : Nat, bits .and .i64 x 7 = (k : Int) ∧ k < 8 := ⟨(x % 8).toNat, by rw [and7]; omega, by omega⟩
  obtain ⟨n, hn⟩ : ∃ n, n = 1 + k := ⟨_, rfl⟩
  obtain ⟨N1, hN1⟩ : ∃ N1, N1 = 65536 + n := ⟨_, rfl⟩
  obtain ⟨N2, hN2⟩ : ∃ N2, N2 = 262144 + n := ⟨_, rfl⟩
  have r1 : IntKind.i64.wrap (1 + (k : Int)) = (n : Int) := by rw [IntKind.wrap_i64]; omega
  have r2 : IntKind.i64.wrap (65536 + (n : Int)) = (N1 : Int) := by rw [IntKind.wrap_i64]; omega
  have r3 : IntKind.i64.wrap (262144 + (n : Int)) = (N2 : Int) := by rw [IntKind.wrap_i64]; omega
  have NB := hid (show 65536 < N1 ∧ N1 < 70000 ∧ 262144 < N2 ∧ N2 < 270000 from by omega)
  obtain ⟨bs, hbs⟩ : ∃ bs, bs = List.replicate 65536 0 := ⟨_, rfl⟩
  have BL := hid (show bs.length = 65536 by rw [hbs, List.length_replicate])
  have B8 := hid (show ∀ d ∈ bs, d < 256 from fun d hd => by rw [hbs] at hd; rw [List.eq_of_mem_replicate hd]; decide)
  have BS := hid (show List.replicate 65536 (Value.int .u8 0) = nums .u8 bs by rw [hbs]; exact (nums_replicate .u8 65536).symm)
  clear hk2 hn hN1 hN2 hbs
  go_enter Tryd.func4, Tryd.ntmps4
  go_wp2_with (fail)
  refine (jhead_walk w HT.out).mono ?_
  rintro e w1 ⟨rfl, b1⟩
  have B1 := hid b1
  clear b1
  go_wp2_with (fail)
  refine (dnew_walk 4096 rfl w1).mono ?_
  rintro e w2 ⟨rfl, d2⟩
  rw [show clampD 4096 = 4096 by decide] at d2
  have fn := hid (fresh_no 4096)
  obtain ⟨C0, hC0⟩ : ∃ C0, C0 = List.replicate 4096 z64 := ⟨_, rfl⟩
  have CL := hid (show C0.length = 4096 by rw [hC0, List.length_replicate])
  unfold NewR at d2
  rw [← hC0] at d2 fn
  obtain ⟨sd, d2, b2⟩ := d2
  have D2 := hid d2
  have B2 := hid (B1.out.trans (b2.mono B1.out.size))
  have SD := hid (show ∀ g, sd.ownBlock = some g → w1.heap.size ≤ g from fun g e => by obtain ⟨vs', o', _⟩ := d2.sure; have := (o'.lt _ e).1; omega)
  clear d2 b2 hC0
  go_wp2_with (fail)
  refine (jopen_new D2.out (HT.out.below B2.out) (fun half hh b h t hr => fn.out half hh b h t hr)).mono ?_
  rintro e w3 ho
  unfold OpenN at ho
  rw [if_pos (by rw [CL.out]; decide)] at ho
  obtain ⟨jb, rfl, j3, d3, k3⟩ := ho
  have J3 := hid j3
  have D3 := hid d3
  have B3 := hid (show Below w.heap.size w w3 from B2.out.trans (k3.below (fun i e => by
    have := B1.out.size
    rcases e with rfl | e
    · exact this
    · have := SD.out i e; omega) B2.out.size))
  clear j3 d3 k3 fn
  go_wp2_with (at_make; refine wpList_mk rfl _ _ _ rfl tyBs rfl w3.heap.size N1 rfl rfl rfl rfl (by have := NB.out; omega) (by decide) (Nat.le_refl _) ?_; intro w4 _ b4 _; have B4 := hid b4; clear b4)
  refine (japp_long (J3.out.below B4.out) _ _ _ NB.out.1).mono ?_
  rintro e w5 ⟨rfl, rfl⟩
  go_wp2_with (at_make; refine wpList_when (by rfl) (fun K hK => wp_mkB _ _ _ rfl tyBs rfl w4.heap.size N2 rfl rfl (by have := NB.out; omega) (by decide) (Nat.le_refl _) (fun w5 _ b5 => hK _ _ ?_)); clear hK K; have B5 := hid (B4.out.trans (b5.mono B4.out.size)); clear b5)
  refine (jput_long (J3.out.below B5.out) _ _ _ NB.out.2.2.1).mono ?_
  rintro e w6 ⟨rfl, rfl⟩
  go_wp2_with (at_make; refine wpList_when (by rfl) (fun K hK => wp_mkB _ _ _ rfl tyBs rfl w5.heap.size 65536 rfl rfl (by decide) (by decide) (Nat.le_refl _) (fun w7 o7 b7 => hK _ _ ?_)); clear hK K; rw [BS.out] at o7; have O7 := hid o7; have B7 := hid (B5.out.trans (b7.mono B5.out.size)); clear o7 b7)
  have D7 := D3.out.below B7.out
  have BY7 := ByA.own O7.out B8.out
  refine (japp_walk (J3.out.below B7.out) D7 (by decide) (by decide) ⟨Nat.lt_of_lt_of_le D2.out.lt.1 D2.out.lt.2, fun g e => by obtain ⟨vs', o', _⟩ := D2.out.sure; exact (o'.lt _ e).2⟩ (HT.out.below (B3.out.trans (B7.out.mono B3.out.size))) (by decide) _ 65536 _ bs (fun w' k => hb_of BY7 D7 w' k) B8.out (Nat.le_refl _) 1025 (by rw [BL.out])).mono ?_
  rintro e w8 ha
  unfold AppRes at ha
  rw [if_pos (by rw [layB_len, CL.out]; decide)] at ha
  obtain ⟨rfl, A⟩ := ha
  have B9 := hid (show Below w.heap.size w w8 from (B3.out.trans (B7.out.mono B3.out.size)).trans (A.keep.below (fun i e => by
    have h1 := B1.out.size
    have h2 := B2.out.size
    have h3 := J3.out.lo
    rcases e with rfl | e | rfl | e
    · exact h1
    · have := SD.out i e; omega
    · omega
    · cases e) (Nat.le_trans B3.out.size B7.out.size)))
  clear A D7 BY7 O7 B7 B5 B4 J3 D3 D2 SD CL
  go_wp2_with (fail)
  refine (dnew_walk 1 rfl w8).mono ?_
  rintro e w9 ⟨rfl, d9⟩
  rw [show clampD 1 = 1 by decide] at d9
  obtain ⟨sd9, d9, b9⟩ := d9
  have D9 := hid d9
  have B10 := hid (B9.out.trans (b9.mono B9.out.size))
  clear d9 b9
  go_wp2_with (fail)
  refine (jopen_new D9.out (HT.out.below B10.out) (fun half hh b h t hr => fresh_no 1 half hh b h t hr)).mono ?_
  rintro e w10 ho
  unfold OpenN at ho
  rw [if_neg (by rw [List.length_replicate]; decide)] at ho
  obtain ⟨rfl, b10⟩ := ho
  have B11 := hid (B10.out.trans (b10.mono B10.out.size))
  clear b10
  go_wp2_with (fail)
  refine (jopen_nil w10).mono ?_
  rintro e w11 ⟨rfl, rfl⟩
  go_wp2_with (fail)
  refine (japp_nil w10 _).mono ?_
  rintro e w12 ⟨rfl, rfl⟩
  go_wp2_with (fail)
  refine (jput_nil w10 _).mono ?_
  rintro e w13 ⟨rfl, rfl⟩
  go_wp2_with (fail)
  refine (jstate_nil w10).mono ?_
  rintro e w14 ⟨rfl, rfl⟩
  go_wp2_with (fail)
  refine (jrecs_nil w10).mono ?_
  rintro e w15 ⟨rfl, rfl⟩
  go_wp2_with (fail)
  refine (jroom_nil w10).mono ?_
  rintro e w16 ⟨rfl, rfl⟩
  go_wp2_with (fail)
  go_ret
  exact ⟨rfl, B11.out⟩
end Go.Proofs.YtllckpcggmfmkaaDoor
