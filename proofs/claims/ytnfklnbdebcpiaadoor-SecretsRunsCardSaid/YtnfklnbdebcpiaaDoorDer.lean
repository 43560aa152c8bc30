/- The walk of derive. -/
import Derived.Test.YtnfklnbdebcpiaaDoorSecP
import Derived.Test.YtnfklnbdebcpiaaDoorSum1
import Derived.Test.YtnfklnbdebcpiaaDoorVar
import Derived.IntWalk
import Derived.Laws.BitsAllLaws
namespace Go.Proofs.YtnfklnbdebcpiaaDoor
open Go.RowKit

def DigRes (X : List Nat) (w : World) (e : Ending) (w' : World) : Prop := e = .returned (hv X) ∧ Below w.heap.size w w'
theorem sl_row {w : World} {g : Nat} {xs : List Nat} {T : TypeId} (h : w.heap[g]? = some (.cells (nums .u8 xs).toArray T (0, 0))) {n : Nat} (hn : xs.length = n) (hm : n ≤ maxLen) : Sl .u8 w (some ⟨g, 0, none⟩) n n xs :=
  sl_of_own (own_of_heap (B := g) h (by simp) (by rw [nums_length, hn]) (Nat.le_refl _) hm)
theorem u64_and1 (x : Nat) : bits .and .u64 (x : Int) 1 = ((x % 2 : Nat) : Int) := by
  have h127 : (BitVec.ofInt 64 1).toNat = 2 ^ 1 - 1 := by decide
  have key : (BitVec.ofInt 64 (x : Int) &&& BitVec.ofInt 64 1).toNat = ((x : Int) % ((2 ^ 64 : Nat) : Int)).toNat % 2 ^ 1 := by
    rw [BitVec.toNat_and, BitVec.toNat_ofInt, h127, Nat.and_two_pow_sub_one_eq_mod]
  show IntKind.u64.wrap ((BitVec.ofInt 64 (x : Int) &&& BitVec.ofInt 64 1).toNat : Nat) = _
  rw [key, IntKind.wrap_u64]
  omega
theorem bit_test (p c : Nat) : bits .and .u64 ((p : Int) / 2 ^ c) 1 = ((p / 2 ^ c % 2 : Nat) : Int) := by
  have e : (p : Int) / 2 ^ c = ((p / 2 ^ c : Nat) : Int) := by rw [Int.natCast_ediv, Int.natCast_pow]; rfl
  rw [e, u64_and1]
theorem infoHa {xs : List Nat} (h : H32 xs) : (Tryd.prog.info? 23).map (·.size) = some (nums .u8 xs).toArray.size := by rw [List.size_toArray, nums_length, h.1]; kernel_rfl
set_option maxRecDepth 100000 in
set_option maxHeartbeats 4000000 in
theorem derive_walk (s : List Nat) (p n : Nat) (hs : H32 s) (_hp : p < 18446744073709551616) (hn : n ≤ 48) (w : World) (ht : Tabs w) :
    Calls Tryd.prog 20 #[hv s, .int .u64 (p : Int), .int .i64 (n : Int)] w (DigRes (leadN p n s) w) := by
  have HT := hid ht
  have HS := hid hs
  have A2 := fun z => alloc2 w (.cells (nums .u8 s).toArray 23) (.cells z 23)
  clear ht hs
  unfold hv
  go_enter Tryd.func20, Tryd.ntmps20
  go_upto_region 1 with (fail)
  generalize hW : World.alloc (World.alloc w _) _ = wb
  replace A2 : ∃ z : Array Value, z.size = 32 ∧ wb.heap[w.heap.size]? = some (.cells (nums .u8 s).toArray 23 (0, 0)) ∧ wb.heap[w.heap.size + 1]? = some (.cells z 23 (0, 0)) ∧ Below w.heap.size w wb := ⟨_, by rfl, hW ▸ (A2 _).1, hW ▸ (A2 _).2.1, hW ▸ (A2 _).2.2.2⟩
  obtain ⟨z, hz, gP, gZ, b0⟩ := A2
  have HP := hid gP
  have HZ := hid gZ
  have B0 := hid b0
  have hz := hid hz
  clear hW gP gZ b0
  generalize hP : w.heap.size = P at *
  generalize hR : P + 1 = R at *
  have hPR : P < R := by omega
  go_wp2
  go_loopw [7] (fun x7 wr => ∃ (k : Nat) (b : Int) (sk : List Nat), Hid (b = (k : Int) - 1) ∧ k ≤ n ∧ x7 = .int .i64 b ∧ Hid (leadN p k sk = leadN p n s) ∧ Hid (H32 sk) ∧ wr.heap[P]? = some (.cells (nums .u8 sk).toArray 23 (0, 0)) ∧ wr.heap[R]? = some (.cells z 23 (0, 0)) ∧ Below P w wr) (fun x7 _ => (intOf x7 + 1).toNat)
  case atStart => exact ⟨n, _, s, hid rfl, by omega, rfl, hid rfl, HS, HP.out, HZ.out, B0.out⟩
  case round =>
    obtain ⟨k, b, sk, hb, hk, rfl, hl, ho, h1, h2, h3⟩ := hrel
    clear HP HZ B0
    have H1 := hid h1
    have H2 := hid h2
    have H3 := hid h3
    clear h1 h2 h3
    have hb' := hb.out
    by_cases h0 : 0 ≤ b
    · obtain ⟨c, rfl⟩ : ∃ c : Nat, b = (c : Int) := ⟨b.toNat, by omega⟩
      have hkc := hid (show k = c + 1 by omega)
      have hc48 : c < 48 := by omega
      clear hb' hb
      have BT := hid (bit_test p c)
      have hb2 : p / 2 ^ c % 2 < 2 := Nat.mod_lt _ (by omega)
      by_cases hbit : p / 2 ^ c % 2 = 1
      · have t1 : (bits .and .u64 ((p : Int) / 2 ^ c) 1 == 1) = true := by rw [BT.out, hbit]; rfl
        have HL := hid (show leadN p c (sha (flipB sk c)) = leadN p n s by rw [← hl.out, hkc.out, leadN, if_pos hbit])
        obtain ⟨q, hq⟩ : ∃ q, q = c / 8 := ⟨_, rfl⟩
        obtain ⟨r, hr⟩ : ∃ r, r = c % 8 := ⟨_, rfl⟩
        have e8 : (c : Int) / 8 = (q : Int) := by omega
        have er : (c : Int) % 8 = (r : Int) := by omega
        have hq32 : q < 32 := by omega
        have hq32' : (q : Int) < 32 := by omega
        have hr8 : r < 8 := by omega
        have HQ := hid hq
        have HR := hid hr
        have cq : wr.cell? ⟨P, q, none⟩ = some (.int .u8 ((sk.getD q 0 : Nat) : Int)) := by
          rw [cell_of_row _ P q _ _ (0, 0) H1.out, List.getElem?_toArray]; exact nums_get .u8 (by rw [ho.out.1]; exact hq32)
        have fq := frozen_of_row _ P q _ _ H1.out
        have hold := getDlt ho.out.2 (by omega) q
        have ex := hid (show bits .xor .u8 ((sk.getD q 0 : Nat) : Int) ((2 : Int) ^ r % 256) = ((sk.getD q 0 ^^^ 2 ^ r : Nat) : Int) by
          have e2 : (2 : Int) ^ r % 256 = ((2 ^ r : Nat) : Int) := by
            have h8 := pow8_lt hr8
            have e3 : ((2 ^ r : Nat) : Int) = (2 : Int) ^ r := by rw [Int.natCast_pow]; rfl
            rw [← e3]
            exact Int.emod_eq_of_lt (Int.natCast_nonneg _) (Int.ofNat_lt.2 h8)
          rw [e2, u8_xor_nat _ _ hold (pow8_lt hr8)])
        have HF := hid (show flipB sk c = sk.set q (sk.getD q 0 ^^^ 2 ^ r) by rw [flipB, ← hq, ← hr])
        generalize sk.getD q 0 = old at *
        clear hbit hb2 hq hr hold
        go_upto_region 5 with (fail)
        go_region
        rw [ex.out]
        have ST := heap_setCell_same wr P q _ 23 (.int .u8 ((old ^^^ 2 ^ r : Nat) : Int)) H1.out
        have SF := Far.set (H := P) (j := q) (w := wr) (.int .u8 ((old ^^^ 2 ^ r : Nat) : Int))
        have BD := (Below.refl (wr.setCell ⟨P, q, none⟩ (.int .u8 ((old ^^^ 2 ^ r : Nat) : Int))).heap.size (wr.setCell ⟨P, q, none⟩ (.int .u8 ((old ^^^ 2 ^ r : Nat) : Int)))).drew
        have h5 := heap_keep ST BD
        have f5 := SF.trans (Far.of BD)
        have e5 : ((nums .u8 sk).toArray.setIfInBounds q (.int .u8 ((old ^^^ 2 ^ r : Nat) : Int))) = (nums .u8 (flipB sk c)).toArray := by
          rw [HF.out]; simp [nums, List.map_set]
        rw [e5] at h5
        have H5 := hid h5
        have HR5 := hid (heap_far H2.out f5 (by omega))
        have B5 := hid (H3.out.trans (f5.below (Nat.le_refl _) (by have := (Array.getElem?_eq_some_iff.1 H1.out).1; omega)))
        clear ST SF BD h5 f5 e5 cq fq ex HF HQ HR e8 er hq32 hq32' hr8 t1
        generalize (wr.setCell ⟨P, q, none⟩ (.int .u8 ((old ^^^ 2 ^ r : Nat) : Int))).drew = w5 at *
        have hfo := hid (flipB_ok (b := c) ho.out)
        have bN := hid ((Below.refl w5.heap.size w5).alloc (Nat.le_refl _) (.cells #[.slice (some ⟨P, 0, none⟩) 32 32] 54))
        have hs5 := B5.out.size
        have hPw : P ≤ w5.heap.size := by have := (Array.getElem?_eq_some_iff.1 H5.out).1; omega
        have BN := hid (B5.out.trans (bN.out.mono hPw))
        go_wp2_with fail
        refine (sum1_walk _ _ _ _ (flipB sk c) _ (cellNew1 _ _ _) (sl_row (heap_keep H5.out bN.out) hfo.out.1 (by decide)) hfo.out.2 (by omega) (HT.out.below (hP ▸ BN.out))).mono ?_
        rintro e w6 ⟨rfl, b6⟩
        have B6 := hid (BN.out.trans (b6.mono (by simp; omega)))
        have H6 := hid (heap_keep (heap_keep H5.out bN.out) b6)
        have HR6 := hid (heap_keep (heap_keep HR5.out bN.out) b6)
        have hso := hid (sha_ok (flipB sk c))
        clear b6 H5 HR5 B5 bN BN hs5 hPw
        generalize sha (flipB sk c) = S6 at *
        have hiA := hid (infoHa hso.out)
        have hsz := hid (show (nums .u8 (flipB sk c)).toArray.size = (nums .u8 S6).toArray.size by simp [hso.out.1, hfo.out.1])
        have hoA := hid (all_oneCell_toArray (nums_oneCell .u8 S6))
        unfold hv
        go_wp2_with (refine wpList_store_row rfl _ _ _ rfl P _ rfl rfl _ _ H6.out hiA.out hsz.out hoA.out ?_)
        have H7 := hid (setRow_heap w6 P _ (nums .u8 S6).toArray _ _ H6.out)
        have F7 : Far P w6 (w6.setRow P (nums .u8 S6).toArray) := ⟨rfl, rfl, rfl, by simp [World.setRow], fun k _ hk => setRow_other w6 P k _ (by simpa using hk)⟩
        have HR7 := hid (heap_far HR6.out F7 (by omega))
        have B7 := hid (below_setRow B6.out (Nat.le_refl _) (nums .u8 S6).toArray)
        clear F7 H6 HR6 B6
        generalize w6.setRow P (nums .u8 S6).toArray = w7 at *
        go_wp2
        go_roundw
        case rel => exact ⟨c, _, S6, hid rfl, by have := hkc.out; omega, rfl, HL, hso, H7.out, HR7.out, B7.out⟩
        case measure => simp only [intOf]; omega
      · have t1 : (bits .and .u64 ((p : Int) / 2 ^ c) 1 == 1) = false := by rw [BT.out, show p / 2 ^ c % 2 = 0 by omega]; rfl
        have HL := hid (show leadN p c sk = leadN p n s by rw [← hl.out, hkc.out, leadN, if_neg hbit])
        clear hbit hb2
        go_wp2
        go_roundw
        case rel => exact ⟨c, _, sk, hid rfl, by have := hkc.out; omega, rfl, HL, ho, H1.out, H2.out, H3.out⟩
        case measure => simp only [intOf]; omega
    · have hb1 : b = -1 := by omega
      subst hb1
      have hk0 : k = 0 := by omega
      clear hb' hb
      subst hk0
      have hos : H32 (leadN p n s) := leadN_ok HS.out
      have h1 := H1.out
      rw [show sk = leadN p n s from hl.out] at h1
      have HP := hid h1
      have hiA := hid (infoHa hos)
      have hsz := hid (show z.size = (nums .u8 (leadN p n s)).toArray.size by rw [hz.out]; simp [hos.1])
      have hoA := hid (all_oneCell_toArray (nums_oneCell .u8 (leadN p n s)))
      clear h1 hos hl
      go_wp2_with (first | (refine wpList_load_row rfl _ _ rfl P rfl _ _ _ _ HP.out Tryd.underlying23 rfl hiA.out ?_) | (refine wpList_store_row rfl _ _ _ rfl R _ rfl rfl _ _ H2.out hiA.out hsz.out hoA.out ?_))
      refine bodyPost_ret (results_cell_row rfl _ _ R _ (nums .u8 (leadN p n s)).toArray _ _ rfl (setRow_heap wr R _ _ _ _ H2.out) Tryd.underlying23 rfl hiA.out) rfl ?_
      exact ⟨rfl, below_setRow (hP ▸ H3.out) (by omega) _⟩
end Go.Proofs.YtnfklnbdebcpiaaDoor
