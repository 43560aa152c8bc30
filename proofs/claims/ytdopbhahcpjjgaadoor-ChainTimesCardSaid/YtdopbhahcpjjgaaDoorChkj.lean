/- The law's mine: an output of one owner. -/
import Derived.Test.YtdopbhahcpjjgaaDoorChms
import Derived.Test.YtdopbhahcpjjgaaDoorTokA
namespace Go.Proofs.YtdopbhahcpjjgaaDoor
open Go.RowKit

/-- a path of an owner alone -/
def ownP (x : List Nat) : PathD := ⟨x, zh, zh, 0, 0⟩
set_option maxRecDepth 100000 in
theorem bPath' (a0 a1 a2 a3 a4 a5 a6 a7 a8 a9 a10 a11 a12 a13 a14 a15 a16 a17 a18 a19 a20 a21 a22 a23 a24 a25 a26 a27 a28 a29 a30 a31 : Nat) : Tryd.prog.built 61 [(0, .agg (nums .u8 [a0, a1, a2, a3, a4, a5, a6, a7, a8, a9, a10, a11, a12, a13, a14, a15, a16, a17, a18, a19, a20, a21, a22, a23, a24, a25, a26, a27, a28, a29, a30, a31]).toArray)] = some (ownP [a0, a1, a2, a3, a4, a5, a6, a7, a8, a9, a10, a11, a12, a13, a14, a15, a16, a17, a18, a19, a20, a21, a22, a23, a24, a25, a26, a27, a28, a29, a30, a31]).cells.toArray := by kernel_rfl
theorem bPath (x : List Nat) (h : x.length = 32) : Tryd.prog.built 61 [(0, .agg (nums .u8 x).toArray)] = some (ownP x).cells.toArray := by
  match x, h with
  | [a0, a1, a2, a3, a4, a5, a6, a7, a8, a9, a10, a11, a12, a13, a14, a15, a16, a17, a18, a19, a20, a21, a22, a23, a24, a25, a26, a27, a28, a29, a30, a31], _ => exact bPath' ..
set_option maxRecDepth 100000 in
theorem bOut (c : Int) (a : Option Addr) (n k : Nat) : Tryd.prog.built 41 [(0, .int .u64 c), (1, .slice a n k)] = some (Value.int .u64 c :: Value.slice a n k :: nums .u8 zh).toArray := by kernel_rfl
def mineO (coins : Nat) (g : Nat) (x : List Nat) : OutD := ⟨coins, some ⟨g, 0, none⟩, 1, [ownP x], zh⟩
def MineR (w : World) (coins : Nat) (sec : List Nat) (e : Ending) (w' : World) : Prop :=
  ∃ g, e = .returned (.agg (mineO coins g (ownD sec)).cells.toArray) ∧ w.heap.size ≤ g ∧ (mineO coins g (ownD sec)).good w' ∧ Below w.heap.size w w'
theorem zh32 : H32b zh := ⟨rfl, by decide⟩
theorem i64z : i64ok 0 := ⟨by decide, by decide⟩
theorem ownP_ok {x : List Nat} (h : H32b x) : (ownP x).ok := ⟨h, zh32, zh32, i64z, i64z⟩
set_option maxRecDepth 100000 in
set_option maxHeartbeats 4000000 in
theorem cmine_walk (coins : Nat) (hc : coins < 18446744073709551616) (sec : List Nat) (hs : H32b sec) (w : World) (ht : Tabs w) :
    Calls Tryd.prog 19 #[.int .u64 (coins : Int), .agg (nums .u8 sec).toArray] w (MineR w coins sec) := by
  have HT := hid ht
  have HS := hid hs
  have HC := hid hc
  obtain ⟨zo, hzo⟩ : ∃ zo : Array Value, zo = zOut := ⟨_, rfl⟩
  have ZH : ∀ w : World, (zeroValue 41).run Tryd.prog w = .ok (.agg zo) w := by rw [hzo]; exact zv_of (by kernel_rfl)
  have zl := hid (show zo.size = 34 by rw [hzo]; rfl)
  have A2 := alloc2p w (.cells (nums .u8 sec).toArray 27) (.cells zo 41)
  have HA := hid A2.1
  have HR := hid A2.2.1
  have B1 := hid A2.2.2.2
  have hiS := hid (show (Tryd.prog.info? 27).map (·.size) = some (nums .u8 sec).length by rw [nums_length, hs.1]; kernel_rfl)
  clear ht hs hc hzo A2
  go_enter Tryd.func19, Tryd.ntmps19
  go_upto_region 1 with (fail)
  generalize (w.alloc (.cells (nums .u8 sec).toArray 27)).alloc (.cells zo 41) = w1 at *
  have rS := row_range HA.out
  go_wp2_with (with_reducible refine wpList_load_mid rfl _ _ rfl w.heap.size 0 rfl (nums .u8 sec) _ rS Tryd.underlying27 rfl hiS.out ?_)
  refine (owner_walk sec HS.out.1 HS.out.2 w1 (HT.out.below B1.out)).mono ?_
  rintro e w2 ⟨rfl, b2⟩
  have B2 := hid (show Below w.heap.size w w2 from B1.out.trans (b2.mono B1.out.size))
  have HR2 := hid (heap_keep HR.out b2)
  have W1 := hid (show w.heap.size + 1 < w1.heap.size from (Array.getElem?_eq_some_iff.1 HR.out).1)
  have b2s := hid b2.size
  obtain ⟨x, hx⟩ : ∃ x, x = ownD sec := ⟨_, rfl⟩
  have XO := hid (show H32b x from by rw [hx]; exact ⟨sha_len _, sha_lt _⟩)
  have HX := hid hx
  rw [← hx]
  clear b2 rS hx
  have BP := hid (bPath x XO.out.1)
  obtain ⟨pcs, hpcs⟩ : ∃ pcs, pcs = (ownP x).cells := ⟨_, rfl⟩
  have HP := hid hpcs
  have PL := hid (show pcs.toArray.size = 98 by rw [hpcs, List.size_toArray, PathD.len (ownP_ok XO.out)])
  rw [← hpcs] at BP
  have hPi := hid (show (Tryd.prog.info? 61).map (·.size) = some 98 by kernel_rfl)
  have hPz := hid (show ((Tryd.prog.info? 61).bind (·.zero)).isSome = true by kernel_rfl)
  have BO := hid (bOut (coins : Int) (some ⟨w2.heap.size, 0, none⟩) 1 1)
  obtain ⟨ocs, hocs⟩ : ∃ ocs, ocs = (mineO coins w2.heap.size x).cells := ⟨_, rfl⟩
  have HO := hid hocs
  rw [show (Value.int .u64 (coins : Int) :: Value.slice (some ⟨w2.heap.size, 0, none⟩) 1 1 :: nums .u8 zh) = ocs from by rw [hocs]; rfl] at BO
  have OLn := hid (show ocs.length = 34 by rw [hocs]; rfl)
  have hiO := hid (show (Tryd.prog.info? 41).map (·.size) = some ocs.toArray.size by rw [List.size_toArray, OLn.out]; kernel_rfl)
  have hoO := hid (show zo.size = ocs.toArray.size by rw [zl.out, List.size_toArray, OLn.out])
  have h16 := hid (show (ocs.toArray.all fun x => x.oneCell') = true by rw [hocs]; exact all_oneCell_toArray (OutD.one _))
  have b3 := (Below.refl w2.heap.size w2).alloc (Nat.le_refl _) (.cells pcs.toArray 61)
  have hR3 := heap_keep HR2.out b3
  have hP3 := heap_alloc_new w2 (.cells pcs.toArray 61)
  clear hpcs hocs
  go_wp2_with (first | with_reducible refine wpList_build1 rfl _ _ rfl BP.out rfl ?_ | with_reducible refine wpList_lit1 rfl _ _ _ rfl rfl Tryd.underlying39 hPi.out hPz.out PL.out (by decide) (by decide) ?_ | with_reducible refine wpList_build2 rfl _ _ _ rfl BO.out rfl rfl ?_ | refine wpList_store_row rfl _ _ _ rfl (w.heap.size + 1) ocs.toArray rfl rfl _ _ hR3 hiO.out hoO.out h16.out ?_)
  refine bodyPost_ret (results_cellH rfl _ _ (w.heap.size + 1) _ ocs.toArray _ _ rfl (setRow_heap _ _ _ _ _ _ hR3) Tryd.underlying41 rfl hiO.out) rfl ?_
  have hne : w2.heap.size ≠ w.heap.size + 1 := by have := W1.out; have := b2s.out; omega
  have hP4 := heap_far hP3 (far_row (w2.alloc (.cells pcs.toArray 61)) (w.heap.size + 1) ocs.toArray) hne
  have rP := row_range hP4
  have pl : pcs.length = 98 := by have := PL.out; simpa using this
  refine ⟨w2.heap.size, by rw [HO.out, HX.out], B2.out.size, ⟨HC.out, zh32, ?_, fun p hp => ?_⟩, below_setRow (B2.out.trans (b3.mono B2.out.size)) (by omega) _⟩
  · show Rd _ 98 (some ⟨w2.heap.size, 0, none⟩) 1 1 ([ownP (ownD sec)].flatMap PathD.cells)
    rw [show [ownP (ownD sec)].flatMap PathD.cells = pcs from by rw [HP.out, HX.out]; simp]
    exact ⟨by rw [pl], Nat.le_refl _, by decide, (fun e => nomatch e), w2.heap.size, 0, fun _ => rfl, fun j u hu => rP j u hu⟩
  · have hp' : p ∈ [ownP (ownD sec)] := hp
    rw [List.mem_singleton] at hp'
    rw [hp']
    exact ownP_ok (by rw [← HX.out]; exact XO.out)
end Go.Proofs.YtdopbhahcpjjgaaDoor

/- The chain's Waits. -/
namespace Go.Proofs.YtdopbhahcpjjgaaDoor
open Go.RowKit

theorem tyHs : SliceTy Tryd.prog 50 27 32 32 (.agg (nums .u8 zh).toArray) := .mk' Tryd.underlying50 (by kernel_rfl) (by decide) (by decide)
theorem TxD.one (t : TxD) : ∀ u ∈ t.cells, u.oneCell' = true := by
  intro u hu
  simp only [TxD.cells, List.mem_cons, List.not_mem_nil, or_false] at hu
  rcases hu with rfl | rfl <;> rfl
theorem idB_ok (t : TxD) : H32b (idB t) := by
  unfold idB
  split
  · exact ⟨sha_len _, sha_lt _⟩
  · exact zh32
def WaitsR (w : World) (ts : List TxD) (e : Ending) (w' : World) : Prop := ∃ v, e = .returned v ∧ w'.ownsRow w.heap.size 27 32 v ts.length (ts.flatMap fun t => nums .u8 (idB t)) ∧ Below w.heap.size w w'
set_option maxRecDepth 100000 in
set_option maxHeartbeats 4000000 in
theorem cwaits_walk {w : World} {cb ob hm dm wm sm N c : Nat} {ht gf : Int} {a : Option Addr} (h : ChAt w cb ob ht hm dm wm sm (.slice a N c) gf) (ts : List TxD) (hN : N = ts.length) (hr : Rd w 2 a N c (ts.flatMap TxD.cells)) (hg : ∀ t ∈ ts, t.good w) (hn : N ≤ 4096) (hT : Tabs w) :
    Calls Tryd.prog 22 #[.pointer (some ⟨cb, 0, none⟩)] w (WaitsR w ts) := by
  have NN := hid hN
  have RD := hid hr
  have HG := hid hg
  have NB := hid hn
  have HT := hid hT
  have c6 := h.c6
  clear h hN hr hg hn hT
  go_enter Tryd.func22, Tryd.ntmps22
  go_upto_region 5 with (fail)
  go_loopw [3, 13] (fun x3 x13 wr => ∃ (i : Nat) (v3 : Value), v3 = x3 ∧ i ≤ N ∧ x13 = .int .i64 (i : Int) ∧ wr.ownsRow w.heap.size 27 32 v3 i ((ts.take i).flatMap fun t => nums .u8 (idB t)) ∧ Below w.heap.size w wr) (fun _ x13 _ => N - (intOf x13).toNat)
  case atStart => exact ⟨0, _, rfl, Nat.zero_le _, rfl, ⟨by simp, .inl ⟨rfl, rfl⟩⟩, Below.refl _ _⟩
  case round =>
    obtain ⟨i, v3, hv3, hi, rfl, ho, hb⟩ := hrel
    subst hv3
    have OI := hid ho
    have BI := hid hb
    clear ho hb
    by_cases hlt : i < N
    case neg =>
      obtain rfl : i = N := by omega
      have t1 : decide (i < i) = false := decide_eq_false (by omega)
      have t2 : decide ((i : Int) < (i : Int)) = false := decide_eq_false (by omega)
      clear hi hlt
      go_wp2_with (fail)
      go_ret
      have o := OI.out
      rw [NN.out, List.take_length] at o
      exact ⟨v3, rfl, o, BI.out⟩
    have t1 : decide (i < N) = true := decide_eq_true hlt
    have t2 : decide ((i : Int) < (N : Int)) = true := decide_eq_true (by omega)
    have t6 : (i : Int) < (N : Int) := by omega
    have t7 : ¬ ((N : Int) ≤ (i : Int)) := by omega
    have t8 : ¬ (N ≤ i) := by omega
    obtain ⟨t, ht'⟩ : ∃ t, ts[i]? = some t := ⟨_, List.getElem?_eq_getElem (by rw [← NN.out]; exact hlt)⟩
    obtain ⟨b, off, rfl, rg⟩ := rd_row (fun z _ => (rfl : (TxD.cells z).length = 2)) RD.out ht' hlt
    have rgr := range_keep BI.out rg
    have tg := HG.out t (List.mem_of_getElem? ht')
    obtain ⟨tc, htc⟩ : ∃ tc, tc = t.cells := ⟨_, rfl⟩
    have TL := hid (show tc.length = 2 by rw [htc]; rfl)
    rw [← htc] at rgr
    have hiC := hid (show (Tryd.prog.info? 25).map (·.size) = some tc.length by rw [TL.out]; kernel_rfl)
    have hiCa := hid (show (Tryd.prog.info? 25).map (·.size) = some tc.toArray.size by rw [List.size_toArray, TL.out]; kernel_rfl)
    have hoC := hid (show 2 = tc.toArray.size by rw [List.size_toArray, TL.out])
    have h16 := hid (show (tc.toArray.all fun x => x.oneCell') = true by rw [htc]; exact all_oneCell_toArray (TxD.one t))
    obtain ⟨i1, hi1⟩ : ∃ i1, i1 = i + 1 := ⟨_, rfl⟩
    have r4 : IntKind.i64.wrap ((i : Int) + 1) = (i1 : Int) := by have := NB.out; rw [IntKind.wrap_i64]; omega
    have I1 := hid (And.intro hi1 hlt)
    have CI := fun (wx : World) (bx : Below w.heap.size w wx) => hid (show Calls Tryd.prog 9 #[.agg tc.toArray] wx _ from by rw [htc]; exact cid_walk t wx (tg.below bx) (HT.out.below bx))
    have HX := hid ht'
    clear hi hlt ht' rg tg htc hi1
    go_upto_region 7 with (first | with_reducible refine wpList_load_mid rfl _ _ rfl b (off + i * 2) rfl tc _ rgr Tryd.underlying25 rfl hiC.out ?_ | (refine wpList_store_row rfl _ _ _ rfl wr.heap.size tc.toArray rfl rfl _ _ (heap_alloc_new _ _) hiCa.out hoC.out h16.out ?_; refine laidW (F := fun w3 => wpList _ _ _ _ _ w3) ?_; intro w3 h3 b3))
    have r3 := row_range h3.out
    have B3 := hid (BI.out.trans (b3.out.mono BI.out.size))
    clear t1 t2 t6 t7 t8 rgr
    go_wp2_with (with_reducible refine wpList_load_mid rfl _ _ rfl wr.heap.size 0 rfl tc _ r3 Tryd.underlying25 rfl hiC.out ?_)
    refine (CI w3 B3.out).out.mono ?_
    rintro e w4 ⟨rfl, b4⟩
    obtain ⟨x, hx⟩ : ∃ x, x = idB t := ⟨_, rfl⟩
    rw [← hx]
    have XO := hid (show x.length = 32 by rw [hx]; exact (idB_ok t).1)
    have HXX := hid hx
    have B4 := hid (B3.out.trans (b4.mono B3.out.size))
    have OI4 := hid (ownKB (ownKB OI.out b3.out) b4)
    have hPi := hid (show (Tryd.prog.info? 27).map (·.size) = some 32 by kernel_rfl)
    have hPz := hid (show ((Tryd.prog.info? 27).bind (·.zero)).isSome = true by kernel_rfl)
    have PL := hid (show (nums .u8 x).toArray.size = 32 by rw [List.size_toArray, nums_length, XO.out])
    have ONE := hid (show (nums .u8 x).toArray.toList.all Value.oneCell' = true from List.all_eq_true.2 (nums_oneCell .u8 x))
    clear b4 hx CI r3
    go_wp2_with (first | with_reducible refine wpList_lit1 rfl _ _ _ rfl rfl Tryd.underlying50 hPi.out hPz.out PL.out (by decide) (by decide) ?_ | (at_builtin; refine wpList_pushK rfl _ _ 50 rfl tyHs w.heap.size OI4.out rfl rfl PL.out ONE.out (by have := I1.out; have := NB.out; omega) (by decide) B4.out.size ?_; intro v7 w7 own7 k7 nb7; have O7 := hid own7; have K7 := hid k7; clear own7 k7 nb7))
    go_roundw
    case rel =>
      refine ⟨i1, v7, rfl, by have := I1.out; omega, rfl, ?_, B4.out.trans (K7.out.below (fun g hg => (OI4.out.lt _ hg).1) B4.out.size)⟩
      have o := O7.out
      rw [I1.out.1, List.take_add_one, HX.out, List.flatMap_append]
      simpa [HXX.out] using o
    case measure => simp [intOf]; have := I1.out; omega
end Go.Proofs.YtdopbhahcpjjgaaDoor

/- The chain's Get. -/
namespace Go.Proofs.YtdopbhahcpjjgaaDoor
open Go.RowKit

structure HeldD where
  out : OutD
  height : Int
def HeldD.cells (h : HeldD) : List Value := h.out.cells ++ [.int .i64 h.height]
def zHeld : HeldD := ⟨⟨0, none, 0, [], zh⟩, 0⟩
def heldM (HM : List Nat × Int → Option HeldD) : List Nat × Int → Option Value := fun p => (HM p).map (fun x => .agg x.cells.toArray)
theorem zHeld_good (w : World) : zHeld.out.good w := ⟨by decide, zh32, ⟨by simp [zHeld], Nat.le_refl _, Nat.zero_le _, fun _ => rfl, 0, 0, fun h => absurd h (by decide), by simp [zHeld]⟩, by simp [zHeld]⟩
theorem HeldD.len {w : World} {h : HeldD} (hg : h.out.good w) : h.cells.length = 35 := by simp [HeldD.cells, OutD.len hg]
theorem HeldD.one (h : HeldD) : ∀ u ∈ h.cells, u.oneCell' = true := by
  intro u hu
  simp only [HeldD.cells, List.mem_append, List.mem_cons, List.not_mem_nil, or_false] at hu
  rcases hu with h1 | rfl
  · exact OutD.one _ u h1
  · rfl
/-- the front of a row is written anew -/
theorem heap_front {w : World} {b : Nat} {t : TypeId} {xs ys vs : List Value} (h : w.heap[b]? = some (.cells (xs ++ vs).toArray t (0, 0))) (hl : ys.length = xs.length) : (w.setCells b 0 ys).heap[b]? = some (.cells (ys ++ vs).toArray t (0, 0)) := by
  rw [heap_setCells ys 0 w _ h]
  congr 2
  apply Array.ext'
  apply List.ext_getElem?
  intro j
  have := setMs_get ys 0 (xs ++ vs).toArray j (by simp [hl])
  rw [Array.getElem?_toList, this]
  simp only [Nat.zero_le, true_and, Nat.zero_add, Nat.sub_zero, List.getElem?_toArray]
  split
  · rename_i hj; rw [List.getElem?_append_left hj]
  · rename_i hj; rw [List.getElem?_append_right (by omega), List.getElem?_append_right (by omega), hl]
def GetR (w : World) (x : Option HeldD) (e : Ending) (w' : World) : Prop :=
  ∃ a c, e = .returned (.tuple #[.agg (HeldD.mk ((x.getD zHeld).out.at' a c) (x.getD zHeld).height).cells.toArray, .bool x.isSome]) ∧ ((x.getD zHeld).out.at' a c).good w' ∧ Below w.heap.size w w'
set_option maxRecDepth 100000 in
set_option maxHeartbeats 4000000 in
theorem cget_walk {w : World} {cb ob hm dm wm sm n : Nat} {ht gf : Int} {pool : Value} (h : ChAt w cb ob ht hm dm wm sm pool gf) (HM : List Nat × Int → Option HeldD) (hM : MapIs EP w hm (heldM HM) n) (hk : ∀ p x, HM p = some x → x.out.good w ∧ x.out.paths.length ≤ 4096) (tx : List Nat) (o : Int) (hx : H32b tx) (ho : i64ok o) :
    Calls Tryd.prog 16 #[.pointer (some ⟨cb, 0, none⟩), .agg (ptI tx o).toArray] w (GetR w (HM (tx, o))) := by
  have H := hid h
  have M := hid hM
  have OK := hid (show EP.ok (tx, o) from ⟨hx, ho⟩)
  obtain ⟨zz, hzz⟩ : ∃ zz : List Value, zz = zHeld.cells := ⟨_, rfl⟩
  have ZH : ∀ w : World, (zeroValue 53).run Tryd.prog w = .ok (.agg zz.toArray) w := by rw [hzz]; exact zv_of (by kernel_rfl)
  have lz := hid (show zz.length = 35 by rw [hzz]; rfl)
  obtain ⟨lp, hlp⟩ : ∃ lp, lp = ptI tx o := ⟨_, rfl⟩
  have hiP := hid (show (Tryd.prog.info? 31).map (·.size) = some lp.length from by rw [hlp, show (ptI tx o).length = 33 by simp [ptI, hx.1]]; kernel_rfl)
  obtain ⟨hv', hhv⟩ : ∃ hv', hv' = (HM (tx, o)).getD zHeld := ⟨_, rfl⟩
  obtain ⟨kn, hkn⟩ : ∃ kn, kn = (HM (tx, o)).isSome := ⟨_, rfl⟩
  have GO := hid (show hv'.out.good w ∧ hv'.out.paths.length ≤ 4096 from by
    rw [hhv]
    cases hs : HM (tx, o) with
    | none => exact ⟨zHeld_good w, by decide⟩
    | some x => exact hk _ x hs)
  obtain ⟨rv, hrv⟩ : ∃ rv, rv = hv'.cells := ⟨_, rfl⟩
  have RV := hid hrv
  have RL := hid (show rv.length = 35 by rw [hrv]; exact HeldD.len GO.out.1)
  have HV := hid (show (if true = true then Value.tuple #[(heldM HM (tx, o)).getD (.agg zz.toArray), .bool (heldM HM (tx, o)).isSome] else (heldM HM (tx, o)).getD (.agg zz.toArray)) = .tuple #[.agg rv.toArray, .bool kn] from by
    rw [hrv, hkn, hzz, hhv]
    unfold heldM
    cases HM (tx, o) <;> rfl)
  have LPe := hid (show Value.agg lp.toArray = EP.enc (tx, o) from by rw [hlp]; rfl)
  have FIN := hid (And.intro hhv hkn)
  have A2 := alloc2p w (.cells lp.toArray 31) (.cells zz.toArray 53)
  have HA := hid A2.1
  have HR := hid A2.2.1
  have B1 := hid A2.2.2.2
  have hiG := hid (show ∀ L : List Value, L.length = 35 → (Tryd.prog.info? 53).map (·.size) = some L.length from fun L hL => by rw [hL]; kernel_rfl)
  have hi6 := hid (show (Tryd.prog.info? 53).map (·.size) = some rv.toArray.size by rw [List.size_toArray, RL.out]; kernel_rfl)
  have ho6 := hid (show zz.toArray.size = rv.toArray.size by rw [List.size_toArray, List.size_toArray, lz.out, RL.out])
  have h16 := hid (show (rv.toArray.all fun x => x.oneCell') = true by rw [hrv]; exact all_oneCell_toArray (HeldD.one _))
  rw [← hlp]
  clear h hM hk hx ho hzz hlp hhv hkn hrv A2
  go_enter Tryd.func16, Tryd.ntmps16
  go_upto_region 3 with (fail)
  generalize (w.alloc (.cells lp.toArray 31)).alloc (.cells zz.toArray 53) = w1 at *
  have c2 := hid (H.out.below B1.out).c2
  have M1 := hid (M.out.below B1.out)
  have rP := hid (row_range HA.out)
  have W1 := hid (show w.heap.size + 1 < w1.heap.size from (Array.getElem?_eq_some_iff.1 HR.out).1)
  refine wp_region_held_drew (S := fun w' => Below w1.heap.size w1 w') (by kernel_rfl) ((Below.refl _ _).drew) (fun hHeld => ?_)
  try simp only [List.size_toArray, List.length_cons, List.length_nil, Nat.reduceAdd, Array.replicate_succ, Array.replicate_zero, List.push_toArray, List.nil_append, List.cons_append]
  refine wpAnyH_take (i := 0) (oi := { dst := some 12, op := Op.move (Operand.tmp 0), type := 43, pos := "chain.go:370", after := #[], guard := none }) (v := ?v1001) rfl (by kernel_rfl) (by kernel_rfl) (by kernel_rfl) (fun _ _ _ h => h) (Or.inl ⟨by rfl, ?hy1001⟩) hHeld ?_
  case hy1001 => (intro w hSw; (try dsimp only at hSw); go_simp; (try with_reducible rfl))
  (try simp only [Act.put, List.setIfInBounds_toArray, List.set_cons_zero, List.set_cons_succ])
  refine wpAnyH_take (i := 1) (oi := { dst := some 13, op := Op.nilCheck (Operand.tmp 12), type := 0, pos := "chain.go:370", after := #[{ on := 0, ground := Ground.data }], guard := none }) (v := ?v1002) rfl (by kernel_rfl) (by kernel_rfl) (by kernel_rfl) (fun _ _ _ h => h) (Or.inl ⟨by rfl, ?hy1002⟩) hHeld ?_
  case hy1002 => (intro w hSw; (try dsimp only at hSw); go_simp; (try with_reducible rfl))
  (try simp only [Act.put, List.setIfInBounds_toArray, List.set_cons_zero, List.set_cons_succ])
  refine wpAnyH_take (i := 2) (oi := { dst := some 14, op := Op.fieldAddr 81 (Operand.tmp 13) 2, type := 0, pos := "chain.go:370", after := #[{ on := 1, ground := Ground.data }], guard := none }) (v := ?v1003) rfl (by kernel_rfl) (by kernel_rfl) (by kernel_rfl) (fun _ _ _ h => h) (Or.inl ⟨by rfl, ?hy1003⟩) hHeld ?_
  case hy1003 => (intro w hSw; (try dsimp only at hSw); go_simp; (try with_reducible rfl))
  (try simp only [Act.put, List.setIfInBounds_toArray, List.set_cons_zero, List.set_cons_succ])
  refine wpAnyH_take (i := 3) (oi := { dst := some 15, op := Op.load 75 (Operand.tmp 14), type := 75, pos := "chain.go:370", after := #[{ on := 2, ground := Ground.data }], guard := none }) (v := (.map (some hm))) rfl (by kernel_rfl) (by kernel_rfl) (by kernel_rfl) (fun _ _ _ h => h) (Or.inl ⟨by rfl, fun w h => by have c9 := cell_keep h c2.out; go_simp⟩) hHeld ?_
  (try simp only [Act.put, List.setIfInBounds_toArray, List.set_cons_zero, List.set_cons_succ])
  refine' wpAnyH_take (i := 4) (oi := { dst := some 16, op := Op.load 31 (Operand.tmp 3), type := 31, pos := "chain.go:370", after := #[], guard := none }) (v := _) rfl (by kernel_rfl) (by kernel_rfl) (by kernel_rfl) (fun _ _ _ h => h) (yieldsIf_load_mid (by rfl) _ _ rfl w.heap.size 0 rfl lp _ (fun _ h => range_keep h rP.out) Tryd.underlying31 rfl hiP.out) hHeld ?_
  (try simp only [Act.put, List.setIfInBounds_toArray, List.set_cons_zero, List.set_cons_succ])
  refine wpAnyH_take (i := 5) (oi := { dst := some 17, op := Op.lookup 75 (Operand.tmp 15) (Operand.tmp 16) true, type := 54, pos := "chain.go:370", after := #[{ on := 3, ground := Ground.data }, { on := 4, ground := Ground.data }], guard := none }) (v := (.tuple #[.agg rv.toArray, .bool kn])) rfl (by kernel_rfl) (by kernel_rfl) (by kernel_rfl) (fun _ _ _ h => h) (Or.inl ⟨by rfl, fun w h => by rw [← HV.out]; exact run_look (.tmp 15) (.tmp 16) _ true rfl Tryd.underlying75 (ZH w) (M1.out.below h) rfl (tx, o) OK.out LPe.out⟩) hHeld ?_
  (try simp only [Act.put, List.setIfInBounds_toArray, List.set_cons_zero, List.set_cons_succ])
  refine wpAnyH_take (i := 6) (oi := { dst := some 11, op := Op.move (Operand.tmp 17), type := 54, pos := "chain.go:370", after := #[{ on := 5, ground := Ground.data }], guard := none }) (v := ?v1004) rfl (by kernel_rfl) (by kernel_rfl) (by kernel_rfl) (fun _ _ _ h => h) (Or.inl ⟨by rfl, ?hy1004⟩) hHeld ?_
  case hy1004 => (intro w hSw; (try dsimp only at hSw); go_simp; (try with_reducible rfl))
  (try simp only [Act.put, List.setIfInBounds_toArray, List.set_cons_zero, List.set_cons_succ])
  refine wpAnyH_take (i := 7) (oi := { dst := some 18, op := Op.extract (Operand.tmp 11) 0, type := 53, pos := "chain.go:370", after := #[{ on := 6, ground := Ground.data }], guard := none }) (v := ?v1005) rfl (by kernel_rfl) (by kernel_rfl) (by kernel_rfl) (fun _ _ _ h => h) (Or.inl ⟨by rfl, ?hy1005⟩) hHeld ?_
  case hy1005 => (intro w hSw; (try dsimp only at hSw); go_simp; (try with_reducible rfl))
  (try simp only [Act.put, List.setIfInBounds_toArray, List.set_cons_zero, List.set_cons_succ])
  refine wpAnyH_take (i := 8) (oi := { dst := some 19, op := Op.extract (Operand.tmp 11) 1, type := 4, pos := "chain.go:370", after := #[{ on := 6, ground := Ground.data }, { on := 10, ground := Ground.gcOnly Departure.lateStores }], guard := none }) (v := ?v1006) rfl (by kernel_rfl) (by kernel_rfl) (by kernel_rfl) (fun _ _ _ h => h) (Or.inl ⟨by rfl, ?hy1006⟩) hHeld ?_
  case hy1006 => (intro w hSw; (try dsimp only at hSw); go_simp; (try with_reducible rfl))
  (try simp only [Act.put, List.setIfInBounds_toArray, List.set_cons_zero, List.set_cons_succ])
  refine wpAnyH_ready (rs := [9]) (by kernel_rfl) (by simp) ?_
  refine AllReadyH.cons (o := { dst := some 6, op := Op.alloc 53, type := 0, pos := "chain.go:370", after := #[], guard := none }) rfl (fun K hK => ?_) ?_
  have BVL := hid hHeld.size; go_simp; (first | refine newZ ?_ | refine newZd ?_); intro wa HW BW
  refine hK.out _ _ (by first | exact hHeld.trans (BW.out.mono hHeld.size) | exact BW.out) (fun hHeld => ?_)
  clear hK K
  (try simp only [List.setIfInBounds_toArray, List.set_cons_zero, List.set_cons_succ])
  refine wpAnyH_ready (rs := [10]) (by kernel_rfl) (by simp) ?_
  refine AllReadyH.cons (o := { dst := none, op := Op.store 53 (Operand.tmp 6) (Operand.tmp 18), type := 0, pos := "chain.go:370", after := #[{ on := 9, ground := Ground.data }, { on := 7, ground := Ground.data }, { on := 0, ground := Ground.phase }, { on := 1, ground := Ground.phase }, { on := 2, ground := Ground.phase }, { on := 3, ground := Ground.phase }, { on := 4, ground := Ground.phase }, { on := 5, ground := Ground.phase }, { on := 6, ground := Ground.phase }, { on := 7, ground := Ground.phase }, { on := 8, ground := Ground.textOnly Departure.lateStores }, { on := 9, ground := Ground.phase }], guard := none }) rfl (fun K hK => ?_) ?_
  rw [if_pos (by rfl)]; refine wp_store_row _ _ _ rfl _ rv.toArray rfl rfl _ _ HW.out hi6.out ho6.out h16.out ?_
  refine hK.out _ _ (below_setRow hHeld BVL.out _) (fun hHeld => ?_)
  clear hK K
  (try simp only [List.setIfInBounds_toArray, List.set_cons_zero, List.set_cons_succ])
  refine wpAnyH_take (i := 11) (oi := { dst := some 7, op := Op.assign (Operand.tmp 19), type := 4, pos := "chain.go:370", after := #[{ on := 8, ground := Ground.data }, { on := 10, ground := Ground.chain }, { on := 0, ground := Ground.phase }, { on := 1, ground := Ground.phase }, { on := 2, ground := Ground.phase }, { on := 3, ground := Ground.phase }, { on := 4, ground := Ground.phase }, { on := 5, ground := Ground.phase }, { on := 6, ground := Ground.phase }, { on := 7, ground := Ground.phase }, { on := 8, ground := Ground.phase }, { on := 9, ground := Ground.phase }, { on := 10, ground := Ground.phase }], guard := none }) (v := ?v1007) rfl (by kernel_rfl) (by kernel_rfl) (by kernel_rfl) (fun _ _ _ h => h) (Or.inl ⟨by rfl, ?hy1007⟩) hHeld ?_
  case hy1007 => (intro w hSw; (try dsimp only at hSw); go_simp; (try with_reducible rfl))
  (try simp only [Act.put, List.setIfInBounds_toArray, List.set_cons_zero, List.set_cons_succ])
  refine wpAnyH_done (by kernel_rfl) ?_ _
  rotate_left
  exact AllReadyH.nil
  exact AllReadyH.nil
  have BE := hid hHeld
  have hr4 := hid (heap_keep HR.out hHeld)
  have hV := hid (setRow_heap _ _ _ rv.toArray _ _ HW.out)
  clear hHeld
  generalize wa.setRow w1.heap.size rv.toArray = wz at *
  obtain ⟨oc, hoc⟩ : ∃ oc, oc = hv'.out.cells := ⟨_, rfl⟩
  obtain ⟨hg, hhg⟩ : ∃ hg, hg = hv'.height := ⟨_, rfl⟩
  have HO := hid (And.intro hoc hhg)
  have OL := hid (show oc.length = 34 by rw [hoc]; exact OutD.len GO.out.1)
  have hVz := hid (show wz.heap[w1.heap.size]? = some (.cells (oc ++ [Value.int .i64 hg]).toArray 53 (0, 0)) from by have := hV.out; rw [RV.out] at this; rw [hoc, hhg]; exact this)
  have rO := gen_range (row_range hVz.out) 0 34
  rw [List.drop_zero, List.take_left' OL.out] at rO
  have BWz := hid (B1.out.trans (BE.out.mono B1.out.size))
  have CC := hid (show Calls Tryd.prog 29 #[.agg oc.toArray] wz _ from by rw [hoc]; exact ccopied_walk hv'.out wz (GO.out.1.below BWz.out) GO.out.2)
  have hiO := hid (show ∀ L : List Value, L.length = 34 → (Tryd.prog.info? 41).map (·.size) = some L.length from fun L hL => by rw [hL]; kernel_rfl)
  have hiO1 := hiO.out oc OL.out
  clear hoc hhg hV
  go_wp2_with (with_reducible refine wpList_load_mid rfl _ _ rfl w1.heap.size 0 rfl oc _ rO Tryd.underlying41 rfl hiO1 ?_)
  refine CC.out.mono ?_
  rintro e w5 ⟨a, c, rfl, g5, o5, b5⟩
  have O5 := hid o5
  have WZ1 := hid (show w1.heap.size < wz.heap.size from (Array.getElem?_eq_some_iff.1 hVz.out).1)
  obtain ⟨nc, hnc⟩ : ∃ nc, nc = (hv'.out.at' a c).cells := ⟨_, rfl⟩
  rw [← hnc]
  have NC := hid hnc
  have NL := hid (show nc.length = 34 by rw [hnc]; exact OutD.len g5)
  have G5 := hid g5
  have hV5 := hid (heap_keep hVz.out b5)
  have hR5 := hid (heap_keep hr4.out b5)
  have BW5 := hid (BWz.out.trans (b5.mono BWz.out.size))
  have hS := heap_front (ys := nc) hV5.out (by rw [NL.out, OL.out])
  have FS := far_setCells (g := w1.heap.size) nc 0 w5
  have hiN : (Tryd.prog.info? 41).map (·.size) = some nc.toArray.size := by rw [List.size_toArray]; exact hiO.out nc NL.out
  have hN1 : (nc.toArray.all fun x => x.oneCell') = true := by rw [hnc]; exact all_oneCell_toArray (OutD.one _)
  have hth : w5.there w1.heap.size 0 nc.toArray.size := tag_there hV5.out (by rw [List.size_toArray, List.size_toArray, List.length_append, NL.out, OL.out]; simp)
  clear b5 g5 o5 hnc CC rO hiO1
  go_upto_region 5 with (refine wpList_store_mid rfl _ _ _ rfl w1.heap.size 0 nc.toArray rfl rfl hth hiN hN1 ?_)
  have hS' : (w5.setCells w1.heap.size 0 nc.toArray.toList).heap[w1.heap.size]? = some (.cells (nc ++ [Value.int .i64 hg]).toArray 53 (0, 0)) := hS
  have FS' : Far w1.heap.size w5 (w5.setCells w1.heap.size 0 nc.toArray.toList) := FS
  clear hS FS
  generalize w5.setCells w1.heap.size 0 nc.toArray.toList = w6 at hS' FS' ⊢
  have hS := hS'
  have FS := FS'
  clear hS' FS'
  obtain ⟨fc, hfc⟩ : ∃ fc, fc = nc ++ [Value.int .i64 hg] := ⟨_, rfl⟩
  rw [← hfc] at hS
  have FL := hid (show fc.length = 35 by rw [hfc, List.length_append, NL.out]; rfl)
  have rF := row_range hS
  have hR6 := heap_far hR5.out FS (by have := W1.out; omega)
  have hiF := hiG.out fc FL.out
  have hiFa : (Tryd.prog.info? 53).map (·.size) = some fc.toArray.size := by rw [List.size_toArray]; exact hiF
  have hoF : zz.toArray.size = fc.toArray.size := by rw [List.size_toArray, List.size_toArray, lz.out, FL.out]
  have hF1 : (fc.toArray.all fun x => x.oneCell') = true := by rw [hfc, NC.out]; exact all_oneCell_toArray (HeldD.one ⟨hv'.out.at' a c, hg⟩)
  have HFC := hid hfc
  clear hfc
  go_wp2_with (first | with_reducible refine wpList_load_mid rfl _ _ rfl w1.heap.size 0 rfl fc _ rF Tryd.underlying53 rfl hiF ?_ | refine wpList_store_row rfl _ _ _ rfl (w.heap.size + 1) fc.toArray rfl rfl _ _ hR6 hiFa hoF hF1 ?_)
  refine bodyPost_ret (results_cell_tmp rfl _ _ (w.heap.size + 1) _ fc.toArray _ _ _ rfl rfl (setRow_heap _ _ _ _ _ _ hR6) Tryd.underlying53 rfl hiFa) rfl ?_
  refine ⟨a, c, ?_, ?_, ?_⟩
  · rw [FIN.out.1.symm, FIN.out.2.symm]
    have e : (HeldD.mk (hv'.out.at' a c) hv'.height).cells = fc := by rw [HFC.out, NC.out, HO.out.2]; rfl
    rw [e]
    rfl
  · rw [FIN.out.1.symm]
    have KF := ((Keep.far' FS).mono (fun i h => Or.inl h) (R := fun i => i = w1.heap.size ∨ i = w.heap.size + 1)).trans ((Keep.far' (far_row w6 (w.heap.size + 1) fc.toArray)).mono (fun i h => Or.inr h))
    have h1 := W1.out
    have h2 := WZ1.out
    have o9 := KF.own O5.out (fun g hg e => by have := (O5.out.lt _ hg).1; omega)
    obtain ⟨a', c', e', hr⟩ := Rd.of_owns o9
    simp only [Value.slice.injEq] at e'
    obtain ⟨rfl, _, rfl⟩ := e'
    exact ⟨G5.out.coins, G5.out.anchor, hr, G5.out.ok⟩
  · exact below_setRow (BW5.out.trans (FS.below (by have := B1.out.size; omega) BW5.out.size)) (by omega) _
end Go.Proofs.YtdopbhahcpjjgaaDoor
