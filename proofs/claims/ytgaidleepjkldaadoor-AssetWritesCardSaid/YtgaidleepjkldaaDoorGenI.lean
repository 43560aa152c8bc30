/- A genesis' name. -/
import Derived.Test.YtgaidleepjkldaaDoorGenH
import Derived.Test.YtgaidleepjkldaaDoorTagN
import Derived.Test.YtgaidleepjkldaaDoorSt
import Derived.Test.YtgaidleepjkldaaDoorDc
namespace Go.Proofs.YtgaidleepjkldaaDoor
open Go.RowKit

def nmAsset : ByteArray := ⟨#[109, 111, 110, 101, 121, 101, 114, 47, 97, 115, 115, 101, 116]⟩
theorem nmAsset_size : nmAsset.size ≤ 1048576 := by decide
def idG (g : Gen) : List Nat := if g.check = 0 then sha (tagH nmAsset ++ g.bytes) else pzero
theorem idG_ok (g : Gen) : (idG g).length = 32 ∧ ∀ d ∈ idG g, d < 256 := by
  unfold idG
  split
  · exact ⟨sha_len _, sha_lt _⟩
  · exact ⟨rfl, by intro d hd; simp [pzero] at hd; omega⟩
theorem gen_recs_ok {g : Gen} (hc : g.check = 0) (hm : g.me.length = 32) (ht : g.tx.length = 32) : encE g.recs = 0 ∧ ∀ r ∈ g.recs, r.1 < 18446744073709551616 := by
  unfold Gen.check at hc
  split at hc
  · omega
  · split at hc
    · omega
    · refine ⟨gen_enc (by simp [ptb, ht]) (by omega) hm, fun r hr => ?_⟩
      simp only [Gen.recs, List.mem_cons, List.not_mem_nil, or_false] at hr
      rcases hr with rfl | rfl | rfl | rfl
      · show 0 < _; decide
      · show 2 < _; decide
      · show 4 < _; decide
      · show 6 < _; decide
theorem gen_bytes_len {g : Gen} (hc : g.check = 0) (hm : g.me.length = 32) (ht : g.tx.length = 32) : 0 < g.bytes.length ∧ g.bytes.length ≤ 16781824 := by
  obtain ⟨h1, h2⟩ := gen_recs_ok hc hm ht
  refine ⟨?_, (encE_zero h1 h2).2⟩
  unfold Gen.bytes Gen.recs
  rw [encAll_cons, List.length_append]
  have := size_pos (0 : Nat)
  have e : ((0, ptb g.tx g.out.toNat) : Pr).1 = 0 := rfl
  rw [e]
  omega
theorem gen_bytes_lt {g : Gen} (hc : g.check = 0) (hm : ∀ d ∈ g.me, d < 256) (ht : ∀ d ∈ g.tx, d < 256) (hn : ∀ d ∈ g.nm, d < 256) : ∀ d ∈ g.bytes, d < 256 := by
  unfold Gen.check at hc
  split at hc
  · omega
  · split at hc
    · omega
    · refine encAll_lt (fun r hr => ?_)
      simp only [Gen.recs, List.mem_cons, List.not_mem_nil, or_false] at hr
      rcases hr with rfl | rfl | rfl | rfl
      · exact ptb_lt ht (by omega)
      · exact hn
      · exact hm
      · intro d hd
        simp only [List.mem_singleton] at hd
        omega
/-- read again it is as it was -/
theorem decG_bytes {g : Gen} (hc : g.check = 0) (hm : g.me.length = 32) (ht : g.tx.length = 32) : decG g.bytes = (g, 0) := by
  obtain ⟨h1, h2⟩ := gen_recs_ok hc hm ht
  have h3 := (encE_zero h1 h2).1
  have hc0 := hc
  unfold Gen.check at hc
  split at hc
  · omega
  · rename_i hn1
    split at hc
    · omega
    · rename_i hn2
      obtain ⟨tx, oz, nm, me, kz⟩ := g
      dsimp only at hm ht hn1 hn2 h3
      obtain ⟨o, rfl⟩ := Int.eq_ofNat_of_zero_le (show 0 ≤ oz by omega)
      obtain ⟨k, rfl⟩ := Int.eq_ofNat_of_zero_le (show 0 ≤ kz by omega)
      have hp : getP (ptb tx o) = (tx, o, 0) := by
        have hl : (ptb tx o).length = 36 := by simp [ptb, ht]
        have g32 : ∀ j, (ptb tx o).getD (32 + j) 0 = [0, 0, 0, o].getD j 0 := fun j => by
          rw [ptb, List.getD_eq_getElem?_getD, List.getElem?_append_right (by omega), ht, show 32 + j - 32 = j by omega, List.getD_eq_getElem?_getD]
        have a0 : (ptb tx o).getD 32 0 = 0 := g32 0
        have a1 : (ptb tx o).getD 33 0 = 0 := g32 1
        have a2 : (ptb tx o).getD 34 0 = 0 := g32 2
        have a3 : (ptb tx o).getD 35 0 = o := g32 3
        unfold getP
        rw [if_pos hl, if_pos ⟨a0, a1, a2⟩, a3, ptb, List.take_left' ht]
      have hb : decS (Gen.bytes ⟨tx, (o : Int), nm, me, (k : Int)⟩) = (Gen.recs ⟨tx, (o : Int), nm, me, (k : Int)⟩, 0) := h3
      unfold decG
      rw [hb, if_neg (by simp)]
      show fourG (0, ptb tx ((o : Int)).toNat) (2, nm) (4, me) (6, [((k : Int)).toNat]) = _
      simp only [Int.toNat_natCast]
      unfold fourG
      simp only [hp, ne_eq, not_true_eq_false, or_self, if_false, hm, List.length_singleton, List.getD_cons_zero]
      rw [if_neg (by rw [hc0]; simp)]
theorem gen_bytes_inj {g h : Gen} (hc : g.check = 0) (hm : g.me.length = 32) (ht : g.tx.length = 32) (kc : h.check = 0) (km : h.me.length = 32) (kt : h.tx.length = 32) : g.bytes = h.bytes ↔ g = h := by
  refine ⟨fun e => ?_, fun e => by rw [e]⟩
  have h1 := decG_bytes hc hm ht
  have h2 := decG_bytes kc km kt
  rw [e, h2] at h1
  exact (Prod.mk.inj h1).1.symm
def IdRes (X : List Nat) (w : World) (e : Ending) (w' : World) : Prop := e = .returned (hv X) ∧ Below w.heap.size w w'
theorem sl_ne {w : World} {a : Option Addr} {n c G : Nat} {xs : List Nat} (h : Sl .u8 w a n c xs) (hn : 0 < n) (hG : w.heap.size ≤ G) : ∀ b off, a = some ⟨b, off, none⟩ → b ≠ G := by
  intro b off ha e
  obtain ⟨b', off', ha', hc⟩ := h.opened
  have h1 := ha' hn
  rw [ha] at h1
  simp only [Option.some.injEq, Addr.mk.injEq, and_true] at h1
  obtain ⟨rfl, rfl⟩ := h1
  have := World.block_lt_of_cell? w _ (hc 0 hn)
  have h3 : b < w.heap.size := by assumption
  omega
theorem infoHa' {xs : List Nat} (h : xs.length = 32) : (Tryd.prog.info? 23).map (·.size) = some (nums .u8 xs).toArray.size := by rw [List.size_toArray, nums_length, h]; exact infoH
theorem sz32' {S : List Nat} (h : S.length = 32) (z : Array Value) (hz : z.size = 32) : z.size = (nums .u8 S).toArray.size := by rw [hz, List.size_toArray, nums_length, h]
theorem one32 (S : List Nat) : (nums .u8 S).toArray.all (·.oneCell') = true := all_oneCell_toArray (nums_oneCell .u8 S)
set_option maxRecDepth 100000 in
set_option maxHeartbeats 4000000 in
theorem gid_walk (g : Gen) (a : Option Addr) (c : Nat) (w : World) (h : g.good w a c) (ht : Tabs w) :
    Calls Tryd.prog 7 #[.agg (g.cells a c).toArray] w (IdRes (idG g) w) := by
  have HT := hid ht
  have HG := hid h
  have unH := Tryd.underlying23
  have A2 := fun z => alloc2p w (.cells (g.cells a c).toArray 28) (.cells z 23)
  have hs0 : 0 < w.heap.size := by have := World.block_lt_of_cell? w _ (ht.1 0 (by decide)); simpa using this
  have hs1 : 1 < w.heap.size := by have := World.block_lt_of_cell? w _ (ht.2 0 (by decide)); simpa using this
  have hiG := hid (show (Tryd.prog.info? 28).map (·.size) = some (g.cells a c).length by rw [Gen.len a c h.tl h.ml]; exact infoGen)
  clear ht h
  go_enter Tryd.func7, Tryd.ntmps7
  go_upto_region 1 with (fail)
  generalize hW : World.alloc (World.alloc w _) _ = wb
  replace A2 : ∃ z : Array Value, z.size = 32 ∧ wb.heap[w.heap.size]? = some (.cells (g.cells a c).toArray 28 (0, 0)) ∧ wb.heap[w.heap.size + 1]? = some (.cells z 23 (0, 0)) ∧ Below w.heap.size w wb := ⟨_, by rfl, hW ▸ (A2 _).1, hW ▸ (A2 _).2.1, hW ▸ (A2 _).2.2.2⟩
  obtain ⟨z, hz, gP, gZ, b0⟩ := A2
  have HZ := hid gZ
  have B0 := hid b0
  have hz := hid hz
  have HGb := hid (HG.out.below b0)
  have r0 := row_range gP
  have hRl : w.heap.size + 1 < wb.heap.size := (Array.getElem?_eq_some_iff.1 gZ).1
  clear hW gP gZ b0 HG
  generalize hP : w.heap.size = P at *
  generalize hR : P + 1 = R at *
  have hPR : P ≤ R := by omega
  have hR0 : R ≠ 0 := by omega
  go_wp2_with (refine wpList_load_mid rfl _ _ rfl P 0 rfl (g.cells a c) _ r0 Tryd.underlying28 rfl hiG.out ?_)
  refine (genc_walk g a c _ HGb.out).mono ?_
  rintro e w2 ⟨v, rfl, ⟨av, cv, rfl, sv⟩, b2⟩
  have HZ2 := hid (heap_keep HZ.out b2)
  have B2 := hid (B0.out.trans (b2.mono (by omega)))
  have hR2 : R < w2.heap.size := (Array.getElem?_eq_some_iff.1 HZ2.out).1
  clear b2 r0 HZ B0
  by_cases hck : g.check = 0
  · have hid1 := hid (show idG g = sha (tagH nmAsset ++ g.bytes) by unfold idG; rw [if_pos hck])
    obtain ⟨hl1, hl2⟩ := gen_bytes_len hck HGb.out.ml HGb.out.tl
    have hlt := hid (gen_bytes_lt hck HGb.out.mb HGb.out.tb HGb.out.nb)
    rw [if_pos hck] at sv
    rw [if_pos hck, hck]
    obtain ⟨bs, hbs⟩ : ∃ bs, bs = g.bytes := ⟨_, rfl⟩
    rw [← hbs] at sv hl1 hl2 hlt hid1 ⊢
    obtain ⟨n, hn⟩ : ∃ n, n = bs.length := ⟨_, rfl⟩
    rw [← hn] at sv hl1 hl2 ⊢
    have HN := hid hn
    have SV := hid sv
    clear hck hbs sv hn
    go_wp2_with fail
    refine (newtag_walk nmAsset _).mono ?_
    rintro e w3 ⟨gt, cur, rfl, lg, hG, hN, b3⟩
    have hG3 := hid hG
    have hN3 := hid hN
    have HZ3 := hid (heap_keep HZ2.out b3)
    have B3 := hid (B2.out.trans (b3.mono (by omega)))
    have SV3 := hid (SV.out.below b3)
    have hneS := sl_ne SV.out hl1 lg
    have hgt3 : gt < w3.heap.size := (Array.getElem?_eq_some_iff.1 hG).1
    have hw23 := b3.size
    clear b3 hG hN HZ2 B2 SV
    have bA := fun T => (Below.refl w3.heap.size w3).alloc (Nat.le_refl _) (.cells #[.slice av n cv] T)
    go_wp2_with fail
    refine (tsum_walk gt 0 _ nmAsset cur _ 1 1 [⟨av, cv, bs⟩] _ nmAsset_size (heap_keep hG3.out (bA _)) (.inl hN3.out) (fun w' hf => parts1 (far_cell' (cellNew1 _ _ _) hf (by show w3.heap.size ≠ gt; omega)) (Far.rd (SV3.out.below (bA _)) hf hneS) hlt.out (by omega)) (by simp [flat, ← HN.out]; omega) (by omega) (HT.out.below (hP ▸ (B3.out.trans ((bA _).mono (by omega))))) (by omega) (by omega)).mono ?_
    rintro e w4 ⟨rfl, f4, _⟩
    have ef : flat [⟨av, cv, bs⟩] = bs := by simp [flat]
    rw [ef, ← hid1.out]
    have HZ4 := hid (heap_far (heap_keep HZ3.out (bA _)) f4 (by omega))
    have B4 := hid ((B3.out.trans ((bA _).mono (by omega))).trans (f4.below (by omega) (by simp; omega)))
    have hiI := hid (infoHa' (idG_ok g).1)
    have hzI := hid (sz32' (idG_ok g).1 z hz.out)
    clear f4 bA ef HZ3 B3 SV3 hneS hG3 hN3 hid1
    unfold hv
    go_wp2_with (refine wpList_store_row rfl _ _ _ rfl R (nums .u8 (idG g)).toArray rfl rfl _ _ HZ4.out hiI.out hzI.out (one32 _) ?_)
    refine bodyPost_ret (results_cellH rfl _ _ R _ (nums .u8 (idG g)).toArray _ _ rfl (setRow_heap w4 R _ _ _ _ HZ4.out) unH rfl hiI.out) rfl ?_
    exact ⟨rfl, hP ▸ below_setRow B4.out hPR _⟩
  · have hid1 := hid (show idG g = pzero by unfold idG; rw [if_neg hck])
    obtain ⟨k, hk⟩ : ∃ k, k = g.check := ⟨_, rfl⟩
    rw [← hk] at hck sv ⊢
    have t1 : ((k : Int) == 0) = false := by rw [beq_eq_false_iff_ne]; omega
    have t2 : ((k : Int) != 0) = true := by rw [bne_iff_ne]; omega
    have hiI := hid (infoHa' (idG_ok g).1)
    have hzI := hid (sz32' (idG_ok g).1 z hz.out)
    rw [hid1.out] at hiI hzI
    have t3 : decide ((k : Int) = 0) = false := by rw [decide_eq_false_iff_not]; omega
    have t4 : (k == 0) = false := by rw [beq_eq_false_iff_ne]; omega
    clear hk sv
    go_wp2_with (refine wpList_store_row rfl _ _ _ rfl R (nums .u8 pzero).toArray rfl rfl _ _ HZ2.out hiI.out hzI.out (one32 _) ?_)
    refine bodyPost_ret (results_cellH rfl _ _ R _ (nums .u8 pzero).toArray _ _ rfl (setRow_heap w2 R _ _ _ _ HZ2.out) unH rfl hiI.out) rfl ?_
    exact ⟨by rw [hid1.out]; rfl, hP ▸ below_setRow B2.out hPR _⟩
end Go.Proofs.YtgaidleepjkldaaDoor
