/- The reference's Point, Read32, GetPoint. -/
import Derived.Deep.Cut
import Derived.Deep.RegionHeld3
import Derived.Lib.LazyBuf
import Derived.Test.YtnbmpgballopeaaDoorZShaP
import Derived.Test.YtnbmpgballopeaaDoorZChf
namespace Go.Proofs.YtnbmpgballopeaaDoor
open Go.RowKit
end Go.Proofs.YtnbmpgballopeaaDoor
/- The reference's GetPoint: refusals. -/
namespace Go.Proofs.YtnbmpgballopeaaDoor
open Go.RowKit
def hz : Array Value := (nums .u8 pzero).toArray
def hzl : Array Value := #[.int .u8 0, .int .u8 0, .int .u8 0, .int .u8 0, .int .u8 0, .int .u8 0, .int .u8 0, .int .u8 0, .int .u8 0, .int .u8 0, .int .u8 0, .int .u8 0, .int .u8 0, .int .u8 0, .int .u8 0, .int .u8 0, .int .u8 0, .int .u8 0, .int .u8 0, .int .u8 0, .int .u8 0, .int .u8 0, .int .u8 0, .int .u8 0, .int .u8 0, .int .u8 0, .int .u8 0, .int .u8 0, .int .u8 0, .int .u8 0, .int .u8 0, .int .u8 0]
theorem hzl_hz : hzl = hz := by unfold hzl hz pzero; rw [nums_replicate]; rfl
theorem hzl_one : hzl.all (·.oneCell') = true := by kernel_rfl
theorem info32 : (Tryd.prog.info? 48).map (·.size) = some 32 := by kernel_rfl
def RGet (w : World) (bs : List Nat) (e : Ending) (w' : World) : Prop := e = .returned (.tuple #[.agg (nums .u8 (getP bs).1).toArray, .int .i64 ((getP bs).2.1 : Int), .int .i64 ((getP bs).2.2 : Int)]) ∧ Below w.heap.size w w'
theorem rget_bad (a : Option Addr) (n cap : Nat) (bs : List Nat) (hn : n ≠ 36) (w : World) (h : Sl .u8 w a n cap bs) :
  Calls Tryd.prog 28 #[.slice a n cap] w (RGet w bs) := by
 have e : getP bs = (pzero, 0, 21) := by unfold getP; rw [if_neg (by rw [h.len]; exact hn)]
 have h0 := hid (heap_alloc_new w (.cells hzl 48))
 have B := hid (below_setRow ((Below.refl w.heap.size w).alloc (Nat.le_refl _) (.cells hzl 48)) (Nat.le_refl _) hzl)
 have h1 := hid (setRow_heap (w.alloc (.cells hzl 48)) w.heap.size _ hzl _ _ h0.out)
 have E := hid e
 have t1 : ((n : Int) == 36) = false := by simp; omega
 clear e hn h
 go_enter Tryd.func28, Tryd.ntmps28
 go_wp2_with (refine wpList_store_row rfl _ _ _ rfl w.heap.size hzl rfl rfl _ _ h0.out info32 rfl hzl_one ?_)
 (try simp only [Exit.inBlock, Exit.then])
 refine bodyPost_ret (results_cell_tmp2 rfl _ _ w.heap.size _ hzl _ _ _ _ rfl rfl rfl h1.out Tryd.underlying48 rfl info32) rfl ?_
 exact ⟨by rw [E.out, hzl_hz]; rfl, B.out⟩
theorem rget_high (a : Option Addr) (cap : Nat) (bs : List Nat) (w : World) (h : Sl .u8 w a 36 cap bs) (hx : ¬(bs.getD 32 0 = 0 ∧ bs.getD 33 0 = 0 ∧ bs.getD 34 0 = 0)) :
  Calls Tryd.prog 28 #[.slice a 36 cap] w (RGet w bs) := by
 have e : getP bs = (pzero, 0, 1) := by unfold getP; rw [if_pos h.len, if_neg hx]
 obtain ⟨b, off, ha, hc⟩ := h.opened
 obtain rfl := ha (by decide)
 have h0 := hid (heap_alloc_new w (.cells hzl 48))
 have bb := (Below.refl w.heap.size w).alloc (Nat.le_refl _) (.cells hzl 48)
 have B := hid (below_setRow bb (Nat.le_refl _) hzl)
 have h1 := hid (setRow_heap (w.alloc (.cells hzl 48)) w.heap.size _ hzl _ _ h0.out)
 have E := hid e
 have hr := h.below bb
 obtain ⟨b', off', ha', hc'⟩ := hr.opened
 simp at ha'
 obtain ⟨rfl, rfl⟩ := ha'
 have c32 := hc' 32 (by decide)
 have c33 := hc' 33 (by decide)
 have c34 := hc' 34 (by decide)
 generalize bs.getD 32 0 = x at *
 generalize bs.getD 33 0 = y at *
 generalize bs.getD 34 0 = z at *
 clear hc hc' hr h bb e ha
 by_cases hx0 : 0 < x
 all_goals by_cases hy0 : 0 < y
 all_goals by_cases hz0 : 0 < z
 all_goals first | (exfalso; omega) | skip
 all_goals
  go_enter Tryd.func28, Tryd.ntmps28
  go_upto_region 3 with (fail)
  show Code.wp _ _ _ _ (w.alloc (.cells hzl 48))
  generalize w.alloc (.cells hzl 48) = w1 at *
  go_wp2_with (refine wpList_store_row rfl _ _ _ rfl w.heap.size hzl rfl rfl _ _ h0.out info32 rfl hzl_one ?_)
  (try simp only [Exit.inBlock, Exit.then])
  refine bodyPost_ret (results_cell_tmp2 rfl _ _ w.heap.size _ hzl _ _ _ _ rfl rfl rfl h1.out Tryd.underlying48 rfl info32) rfl ?_
  exact ⟨by rw [E.out, hzl_hz]; rfl, B.out⟩
end Go.Proofs.YtnbmpgballopeaaDoor
/- The reference's Read32, and its GetPoint where it is one. -/
namespace Go.Proofs.YtnbmpgballopeaaDoor
open Go.RowKit
def pz (l : List Nat) : List Nat := l ++ List.replicate (32 - l.length) 0
theorem pz_len {l : List Nat} (h : l.length ≤ 32) : (pz l).length = 32 := by simp [pz]; omega
theorem pz_set {l : List Nat} {k : Nat} (hl : l.length = k) (hk : k < 32) (d : Nat) : (pz l).set k d = pz (l ++ [d]) := by
 subst hl
 obtain ⟨m, hm⟩ : ∃ m, 32 - l.length = m + 1 := ⟨32 - l.length - 1, by omega⟩
 have h2 : 32 - (l ++ [d]).length = m := by simp; omega
 unfold pz
 rw [hm, h2, List.set_append_right _ _ (Nat.le_refl _), Nat.sub_self, List.replicate_succ, List.set_cons_zero]
 simp
theorem pz_full {l : List Nat} (h : l.length = 32) : pz l = l := by simp [pz, h]
theorem take_snoc {bs : List Nat} {k : Nat} (h : k < bs.length) : bs.take (k + 1) = bs.take k ++ [bs.getD k 0] := by
 rw [List.take_add_one, List.getElem?_eq_getElem h, List.getD_eq_getElem?_getD, List.getElem?_eq_getElem h]; rfl
theorem hzl_pz : hzl.toList = nums .u8 (pz []) := by rw [hzl_hz]; rfl
set_option maxRecDepth 100000 in
set_option maxHeartbeats 1000000 in
theorem read32_walk (a : Option Addr) (n cap : Nat) (bs : List Nat) (hn : 32 ≤ n) (w : World) (h : Sl .u8 w a n cap bs) :
  Calls Tryd.prog 29 #[.slice a n cap] w fun e w' => e = .returned (hv (bs.take 32)) ∧ Below w.heap.size w w' := by
 obtain ⟨b, off, ha, _⟩ := h.opened
 obtain rfl := ha (by omega)
 have HL := hid h.len
 have HI := hid h
 have A2 := alloc2p w (.cells hzl 48) (.cells hzl 48)
 have hW1 := hid (setRow_heap _ (w.heap.size + 1) _ hzl _ _ A2.2.1)
 have hW0 := hid (show (((w.alloc (.cells hzl 48)).alloc (.cells hzl 48)).setRow (w.heap.size + 1) hzl).heap[w.heap.size]? = some (.cells hzl 48 (0, 0)) by rw [setRow_other _ _ _ _ (by omega)]; exact A2.1)
 have hWB := hid (below_setRow A2.2.2.2 (show w.heap.size ≤ w.heap.size + 1 by omega) hzl)
 have hA := hid A2.2.1
 clear A2 ha h
 go_enter Tryd.func29, Tryd.ntmps29
 go_wp2_with (refine wpList_store_row rfl _ _ _ rfl (w.heap.size + 1) hzl rfl rfl _ _ hA.out info32 rfl hzl_one ?_)
 show Code.wp _ _ _ _ (((w.alloc (.cells hzl 48)).alloc (.cells hzl 48)).setRow (w.heap.size + 1) hzl)
 clear hA
 generalize ((w.alloc (.cells hzl 48)).alloc (.cells hzl 48)).setRow (w.heap.size + 1) hzl = W at *
 obtain ⟨G, hG⟩ : ∃ G, G = w.heap.size + 1 := ⟨_, rfl⟩
 obtain ⟨F, hF⟩ : ∃ F, F = w.heap.size := ⟨_, rfl⟩
 rw [← hG] at hW1 ⊢
 rw [← hF] at hW0 ⊢
 have HG := hid hG
 have HF := hid hF
 clear hG hF
 have O0 := hid (own_of_heap (B := G) hW1.out hzl_pz (by rw [nums_length, pz_len (by decide)]) (Nat.le_refl _) (show 32 ≤ maxLen by decide))
 go_wp2
 go_loopw [4] (fun x4 wr => ∃ k : Nat, k ≤ 32 ∧ x4 = .int .i64 k ∧ wr.ownsRow G 48 1 (.slice (some ⟨G, 0, none⟩) 32 32) 32 (nums .u8 (pz (bs.take k))) ∧ Far G W wr) (fun x4 _ => 32 - (intOf x4).toNat)
 case atStart => exact ⟨0, by omega, rfl, O0.out, Far.refl _ _⟩
 case round =>
  obtain ⟨k, hk, rfl, how, hf⟩ := hrel
  clear O0
  have HB := hid (hWB.out.trans (hf.below (show w.heap.size ≤ G by have := HG.out; omega) hWB.out.size))
  have HW := hid how
  have HFA := hid hf
  by_cases hlt : k < 32
  ·obtain ⟨b', off', ha', hc'⟩ := (HI.out.below HB.out).opened
   have ha2 := ha' (by omega)
   simp only [Option.some.injEq, Addr.mk.injEq, and_true] at ha2
   obtain ⟨rfl, rfl⟩ := ha2
   have ck := hc' k (by omega)
   have hpl : (pz (bs.take k)).length = 32 := pz_len (by rw [List.length_take]; omega)
   have ok := how.cellAt k (by omega)
   rw [nums_get .u8 (by omega)] at ok
   have fk := how.frozenAt k
   have hst := hid (And.intro (own_store how k (z := ((bs.getD k 0 : Nat) : Int)) (d := bs.getD k 0) rfl).1 (hf.trans (Far.set (H := G) (j := k) (.int .u8 ((bs.getD k 0 : Nat) : Int)))))
   rw [pz_set (by rw [List.length_take, HL.out]; omega) hlt, ← take_snoc (by rw [HL.out]; omega)] at hst
   have hkn : (k : Int) < (n : Int) := by omega
   generalize bs.getD k 0 = d at *
   generalize (pz (bs.take k)).getD k 0 = d0 at *
   clear hc' how hf hpl ha'
   go_wp2
   go_roundw
   case rel => exact ⟨k + 1, by omega, by go_num, hst.out.1, hst.out.2⟩
   case measure => simp [intOf]; omega
  ·obtain rfl : k = 32 := by omega
   have hl32 : (bs.take 32).length = 32 := by rw [List.length_take, HL.out]; omega
   rw [pz_full hl32] at HW
   have HR := hid (show wr.rangeAt G 0 (nums .u8 (bs.take 32)) from fun j v hj => by
    have hj' : j < 32 := by have := (List.getElem?_eq_some_iff.1 hj).1; rw [nums_length, hl32] at this; exact this
    rw [Nat.zero_add, HW.out.cellAt j hj']; exact hj)
   have HN := hid (show (Tryd.prog.info? 48).map (·.size) = some (nums .u8 (bs.take 32)).length by rw [nums_length, hl32]; exact info32)
   have hcs : (nums .u8 (bs.take 32)).toArray.size = 32 := by rw [List.size_toArray, nums_length, hl32]
   have HN2 := hid (show (Tryd.prog.info? 48).map (·.size) = some (nums .u8 (bs.take 32)).toArray.size by rw [hcs]; exact info32)
   have HZ := hid (show hzl.size = (nums .u8 (bs.take 32)).toArray.size by rw [hcs]; rfl)
   have HO := hid (show (nums .u8 (bs.take 32)).toArray.all (·.oneCell') = true from all_oneCell_toArray (nums_oneCell _ _))
   have HF0 := hid (show wr.heap[F]? = some (.cells hzl 48 (0, 0)) by
    rw [hf.block F (Array.getElem?_eq_some_iff.1 hW0.out).1 (by simp; have := HG.out; have := HF.out; omega)]; exact hW0.out)
   have B2 := hid (below_setRow HB.out (show w.heap.size ≤ F by have := HF.out; omega) (nums .u8 (bs.take 32)).toArray)
   have h1 := hid (setRow_heap _ F _ (nums .u8 (bs.take 32)).toArray _ _ HF0.out)
   clear how hf hl32 hcs
   go_wp2_with (first | refine wpList_load_mid rfl _ _ rfl G 0 rfl (nums .u8 (bs.take 32)) _ HR.out Tryd.underlying48 rfl HN.out ?_ | refine wpList_store_row rfl _ _ _ rfl F (nums .u8 (bs.take 32)).toArray rfl rfl _ _ HF0.out HN2.out HZ.out HO.out ?_)
   (try simp only [Exit.inBlock, Exit.then])
   refine bodyPost_ret (results_cellH rfl _ _ F _ (nums .u8 (bs.take 32)).toArray _ _ rfl h1.out Tryd.underlying48 rfl HN2.out) rfl ?_
   exact ⟨rfl, B2.out⟩
end Go.Proofs.YtnbmpgballopeaaDoor
/- The reference's GetPoint at what is a point. -/
namespace Go.Proofs.YtnbmpgballopeaaDoor
open Go.RowKit
set_option maxRecDepth 100000 in
set_option maxHeartbeats 2000000 in
theorem rget_good (a : Option Addr) (cap : Nat) (bs : List Nat) (hbs : ∀ d ∈ bs, d < 256) (w : World) (h : Sl .u8 w a 36 cap bs) (hx : bs.getD 32 0 = 0 ∧ bs.getD 33 0 = 0 ∧ bs.getD 34 0 = 0) :
  Calls Tryd.prog 28 #[.slice a 36 cap] w (RGet w bs) := by
 have e : getP bs = (bs.take 32, bs.getD 35 0, 0) := by unfold getP; rw [if_pos h.len, if_pos hx]
 have HL := hid h.len
 obtain ⟨b, off, ha, hc⟩ := h.opened
 obtain rfl := ha (by decide)
 have h0 := hid (heap_alloc_new w (.cells hzl 48))
 have bb := (Below.refl w.heap.size w).alloc (Nat.le_refl _) (.cells hzl 48)
 have HB := hid bb
 have hr := h.below bb
 have HR := hid hr
 obtain ⟨b', off', ha', hc'⟩ := hr.opened
 simp at ha'
 obtain ⟨rfl, rfl⟩ := ha'
 have c32 := hc' 32 (by decide)
 have c33 := hc' 33 (by decide)
 have c34 := hc' 34 (by decide)
 have c35 := hc' 35 (by decide)
 obtain ⟨hx1, hx2, hx3⟩ := hx
 generalize bs.getD 32 0 = x at *
 generalize bs.getD 33 0 = y at *
 generalize bs.getD 34 0 = z at *
 have hx0 : ¬ 0 < x := by omega
 have hy0 : ¬ 0 < y := by omega
 have hz0 : ¬ 0 < z := by omega
 have d35 := getDltP hbs 35
 generalize bs.getD 35 0 = u at *
 have eu : IntKind.i64.wrap (u : Int) = (u : Int) := by simp [IntKind.wrap, IntKind.bits, IntKind.signed]; omega
 have E := hid e
 have th := there_of_heap (n := 32) h0.out (by decide)
 have hne := hid (show b ≠ w.heap.size by have := World.block_lt_of_cell? w _ (hc 35 (by decide)); simp at this; omega)
 clear hc hc' hr h bb e ha hx1 hx2 hx3
 have hlen32 : (bs.take 32).length = 32 := by rw [List.length_take, HL.out]; decide
 have hi : (Tryd.prog.info? 48).map (·.size) = some (nums .u8 (bs.take 32)).length := by rw [nums_length, hlen32]; exact info32
 have h1 : ∀ v ∈ nums .u8 (bs.take 32), v.oneCell' = true := nums_oneCell _ _
 have hln : (nums .u8 (bs.take 32)).length = 32 := by rw [nums_length, hlen32]
 clear hlen32
 have R32 := fun (wx : World) (hx : Sl .u8 wx (some ⟨b, off, none⟩) 36 cap bs) => hid (read32_walk (some ⟨b, off, none⟩) 36 cap bs (by decide) wx hx)
 go_enter Tryd.func28, Tryd.ntmps28
 go_upto_region 3 with (fail)
 show Code.wp _ _ _ _ (w.alloc (.cells hzl 48))
 have hlt : w.heap.size < (w.alloc (.cells hzl 48)).heap.size := by simp
 have hbl : b < (w.alloc (.cells hzl 48)).heap.size := World.block_lt_of_cell? _ _ c35
 generalize w.alloc (.cells hzl 48) = w1 at *
 obtain ⟨G, hG⟩ : ∃ G, G = w.heap.size := ⟨_, rfl⟩
 rw [← hG] at th hlt hne ⊢
 have HG := hid hG
 clear hG h0
 go_wp2_with fail
 go_region_held3 (fun w' => w'.cell? ⟨b, off + 35, none⟩ = some (.int .u8 (u : Int)) ∧ w'.there G 0 32)
  (first
   | exact ⟨c35, th⟩
   | exact ⟨c35b, thb⟩
   | exact ⟨(World.cell?_setCells_out _ _ _ _ _ (fun hb => absurd hb hne.out)).trans c35b, World.there_setCells thb _ _ _⟩
   | fail)
  ((go_at_call 29; (refine (R32 _ ?_).out.mono ?_); (exact HR.out); (rintro e w2 ⟨rfl, b2⟩); (have c35b := (b2.cell (p := ⟨b, off + 35, none⟩) hbl).trans c35); (have thb := there_below b2 th hlt)))
 all_goals
  have HRA := hid (show World.rangeAt _ G 0 (nums .u8 (bs.take 32)) from World.rangeAt_setCells_same _ G 0 (nums .u8 (bs.take 32)) (by rw [hln]; exact thb))
  have HBE := hid (Go.below_setCells (show w.heap.size ≤ G by rw [HG.out]; exact Nat.le_refl _) (nums .u8 (bs.take 32)) 0 _ (HB.out.trans ((((Below.refl _ _).drew).trans b2).mono HB.out.size)))
  have HI := hid hi
  clear th thb c35 c35b b2 hi h1 eu R32
  go_wp2
  (try simp only [Exit.inBlock, Exit.then])
  refine bodyPost_ret (results_mid_tmp2 rfl _ _ G (nums .u8 (bs.take 32)) _ _ _ rfl rfl rfl HRA.out Tryd.underlying48 rfl HI.out) rfl ?_
  exact ⟨by rw [E.out]; rfl, HBE.out⟩
theorem rget_walk (a : Option Addr) (n cap : Nat) (bs : List Nat) (hbs : ∀ d ∈ bs, d < 256) (w : World) (h : Sl .u8 w a n cap bs) :
  Calls Tryd.prog 28 #[.slice a n cap] w (RGet w bs) := by
 by_cases hn : n = 36
 ·subst hn
  by_cases hx : bs.getD 32 0 = 0 ∧ bs.getD 33 0 = 0 ∧ bs.getD 34 0 = 0
  ·exact rget_good a cap bs hbs w h hx
  ·exact rget_high a cap bs w h hx
 ·exact rget_bad a n cap bs hn w h
end Go.Proofs.YtnbmpgballopeaaDoor
