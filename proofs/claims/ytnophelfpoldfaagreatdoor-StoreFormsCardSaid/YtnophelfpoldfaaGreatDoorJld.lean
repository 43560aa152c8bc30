/- The journal's load, at a half that has a journal. -/
import Derived.Test.YtnophelfpoldfaaGreatDoorGReg
namespace Go.Proofs.YtnophelfpoldfaaGreatDoor
open Go.RowKit

theorem laidW {F : World → Prop} {w : World} {z c : Array Value} {t : TypeId} (h : ∀ w3, Hid (w3.heap[w.heap.size]? = some (.cells c t (0, 0))) → Hid (Below w.heap.size w w3) → F w3) : F ((w.alloc (.cells z t)).setRow w.heap.size c) :=
  h _ (hid (laid w z c t).1) (hid (laid w z c t).2)
theorem setRowW {F : World → Prop} {w0 W : World} {V : Nat} {z c : Array Value} {v : Value} {bs : List Nat} (hz : W.heap[V]? = some (.cells z 62 (0, 0))) (hb : Below w0.heap.size w0 W) (hV : w0.heap.size ≤ V) (hy : ByA W v bs) (h : ∀ w3, Hid (w3.heap[V]? = some (.cells c 62 (0, 0))) → Hid (Below w0.heap.size w0 w3) → Hid (ByA w3 v bs) → F w3) : F (W.setRow V c) :=
  h _ (hid (setRow_heap _ _ _ _ _ _ hz)) (hid (below_setRow hb hV _)) (hid (hy.keep (Keep.far' (far_row W V c)) (fun _ _ e => by cases e; exact hash_noBy hz)))
theorem own_ne_jb {w : World} {jb db B half next turn : Nat} {chk : List Nat} {sv rv v : Value} {dead : Bool} {n : Nat} {vs : List Value} (h : JB w jb db half next turn chk sv rv dead) (ho : w.ownsRow B 22 1 v n vs) {g : Nat} (hg : v.ownBlock = some g) : g ≠ jb := by
  intro e
  obtain ⟨cur, hc⟩ := own_obj ho hg
  rw [e, h.cell] at hc
  simp only [Option.some.injEq, Obj.cells.injEq] at hc
  exact absurd hc.2.1 (by decide)
theorem u64_or_join (c d : Nat) (hc : c < 72057594037927936) (hd : d < 256) : bits .or .u64 ((c : Int) * 256) (d : Int) = ((c * 256 + d : Nat) : Int) := by
  have h1 : ∀ n : Nat, n < 18446744073709551616 → (BitVec.ofInt 64 (n : Int)).toNat = n := fun n hn => by rw [BitVec.toNat_ofInt]; omega
  have e1 : (c : Int) * 256 = ((c * 256 : Nat) : Int) := by omega
  rw [e1]
  show IntKind.u64.wrap ((BitVec.ofInt 64 ((c * 256 : Nat) : Int) ||| BitVec.ofInt 64 (d : Int)).toNat : Int) = _
  rw [BitVec.toNat_or, h1 _ (by omega), h1 _ (by omega), show c * 256 = 2 ^ 8 * c by omega, ← Nat.two_pow_add_eq_or_of_lt (by omega : d < 2 ^ 8), IntKind.wrap_u64]
  omega
def LoadYes (w : World) (db half u : Nat) (st : List Nat) (rs : List (List Nat)) (p : Nat) (ck : List Nat) (e : Ending) (w' : World) : Prop :=
  ∃ jb rv, e = .returned (.tuple #[.pointer (some ⟨jb, 0, none⟩), .bool true]) ∧ JourAt w' jb db w.heap.size half p u ck st rv rs ∧ Below w.heap.size w w'
def tpre (u i : Nat) : Nat := u / 2 ^ (8 * (8 - i))
theorem tpre_step {u i : Nat} (hi : i < 8) : tpre u i * 256 + (be8 u)[i]'(by rw [be8_len]; exact hi) = tpre u (i + 1) := by
  have e : (be8 u)[i]'(by rw [be8_len]; exact hi) = u / 2 ^ (8 * (7 - i)) % 256 := by simp [be8]
  rw [e]
  unfold tpre
  rw [show 8 - (i + 1) = 7 - i by omega, show 8 * (8 - i) = 8 * (7 - i) + 8 by omega, Nat.pow_add, ← Nat.div_div_eq_div_mul]
  generalize u / 2 ^ (8 * (7 - i)) = x
  omega
theorem tpre_lt {u i : Nat} (hu : u < 18446744073709551616) (hi : i < 8) : tpre u i < 72057594037927936 := by
  unfold tpre
  have : 2 ^ 8 ≤ 2 ^ (8 * (8 - i)) := Nat.pow_le_pow_right (by decide) (by omega)
  calc u / 2 ^ (8 * (8 - i)) ≤ u / 2 ^ 8 := Nat.div_le_div_left this (by decide)
    _ < _ := by omega
theorem ByA.empty {w : World} {g off n c k : Nat} {bs : List Nat} (h : ByA w (.slice (some ⟨g, off, none⟩) n c) bs) (hk : k ≤ maxLen) : ByA w (.slice (some ⟨g, off, none⟩) 0 k) [] := by
  obtain ⟨a, n', c', e, hs, hb, _, hg⟩ := h
  simp only [Value.slice.injEq] at e
  obtain ⟨rfl, rfl, rfl⟩ := e
  exact ⟨_, _, _, rfl, ⟨by simp, Nat.zero_le _, hk, (fun e => nomatch e), 0, 0, fun h => absurd h (by decide), by simp⟩, by simp, fun _ => rfl, hg⟩
theorem recH_ok (ah b : List Nat) : (recH ah b).length = 32 ∧ ∀ d ∈ recH ah b, d < 256 := ⟨sha_len _, sha_lt _⟩
/-- the loop's state: some records are read, the others are still to come -/
structure LdI (w : World) (C : List (List Nat)) (jb db half u : Nat) (st : List Nat) (rs : List (List Nat)) (p : Nat) (ck : List Nat) (wr : World) : Prop where
  ex : ∃ sv rv done rest nx cx vs, done.length ≤ nx ∧ JB wr jb db half nx u cx sv rv false ∧ ByA wr sv st ∧ (∀ d ∈ cx, d < 256) ∧ rs = done ++ rest ∧ wr.ownsRow w.heap.size 22 1 rv done.length vs ∧ JRs wr vs done ∧ ChainC C half nx cx rest p ck ∧ nx ≤ C.length / 2
  bel : Below w.heap.size w wr
def nextOf (wr : World) (jb : Nat) : Nat := match wr.cell? ⟨jb, 2, none⟩ with
  | some (.int _ n) => n.toNat
  | _ => 0
set_option maxRecDepth 100000 in
set_option maxHeartbeats 4000000 in
theorem jload_walk {w : World} {db B : Nat} {sv : Value} {C : List (List Nat)} (h : DiskAt w db B sv (.slice none 0 0) C []) (half : Nat) (hh : half ≤ 1) (ht : Tabs w) (u : Nat) (hu : u < 18446744073709551616) (hu0 : 0 < u) (st h0 : List Nat) (t1 : Nat) (hr0 : readC C half 0 z32 = some (be8 u ++ st, h0, t1)) (rs : List (List Nat)) (p : Nat) (ck : List Nat) (hch : ChainC C half t1 h0 rs p ck) :
    Calls Tryz.prog 24 #[.pointer (some ⟨db, 0, none⟩), .int .i64 (half : Int)] w (LoadYes w db half u st rs p ck) := by
  have H := hid h
  have HH := hid hh
  have HT := hid ht
  have HU := hid hu
  have HU0 := hid hu0
  have CH := hid hch
  have RO := hid (readC_out hr0)
  have lh := hid (readC_len hr0)
  have Z8 := hid (show ∀ d ∈ z32, d < 256 by decide)
  have HR0 := hid hr0
  clear h hh ht hu hu0 hch hr0
  go_enter Tryz.func24, Tryz.ntmps24
  go_wp2_with (fail)
  have bw := (Below.refl w.heap.size w).alloc (Nat.le_refl _) (.cells (jcells db half 0 0 z32 (.slice none 0 0) (.slice none 0 0) false).toArray 64)
  have j1 : JB (w.alloc (.cells (jcells db half 0 0 z32 (.slice none 0 0) (.slice none 0 0) false).toArray 64)) w.heap.size db half 0 0 z32 (.slice none 0 0) (.slice none 0 0) false := ⟨heap_alloc_new _ _, rfl⟩
  refine (jread_walk (H.out.below bw) half HH.out 0 (by decide) z32 rfl Z8.out (HT.out.below bw)).mono ?_
  rintro e w2 ⟨hr, b2⟩
  have B2 := hid (show Below w.heap.size w w2 from bw.trans (b2.mono bw.size))
  have J2 := hid (j1.below b2)
  clear bw b2 j1
  rw [HR0.out] at hr
  obtain ⟨v, rfl, hv, hcap⟩ := hr
  have HV := hid hv
  obtain ⟨a, n, c, rfl, hs, _, ha, _⟩ := hv
  simp only [capV] at hcap
  have hc8 : ¬ (c = 8) := by omega
  clear hcap
  have hn : (be8 u ++ st).length = n := hs.len
  have hn8 : n = 8 + st.length := by rw [← hn, List.length_append, be8_len]
  have SL := hid hs
  obtain ⟨g, off, rfl⟩ : ∃ g off, a = some ⟨g, off, none⟩ := by
    obtain ⟨b, o, h1, _⟩ := hs.opened
    exact ⟨b, o, h1 (by omega)⟩
  have hnc := hs.2.1
  have t1' : decide (n < 8) = false := decide_eq_false (by omega)
  have t2 : decide ((n : Int) < 8) = false := decide_eq_false (by omega)
  have s1 : (8 : Int) ≤ (c : Int) := by omega
  have s2 : (8 : Nat) ≤ c := by omega
  have N8 := hid (And.intro hn8 hnc)
  have hiZ := hid (show (Tryz.prog.info? 62).map (·.size) = some (nums .u8 h0).toArray.size by rw [List.size_toArray, nums_length, lh.out]; kernel_rfl)
  have hz1 := hid (all_oneCell_toArray (nums_oneCell .u8 h0))
  have hoZ := hid (show 32 = (nums .u8 h0).toArray.size by rw [List.size_toArray, nums_length, lh.out])
  clear hs ha hn hn8 hnc
  go_upto_region 6 with (refine wpList_store_row rfl _ _ _ rfl w2.heap.size (nums .u8 h0).toArray rfl rfl _ _ (heap_alloc_new _ _) hiZ.out hoZ.out hz1.out ?_; refine laidW (F := fun w3 => wpList _ _ _ _ _ w3) ?_; intro w3 h3 b3)
  have J3 := hid (J2.out.below b3.out)
  have HV3 := hid (HV.out.below b3.out)
  have B3 := hid (B2.out.trans (b3.out.mono B2.out.size))
  go_loopw [40] (fun x40 wr => ∃ i : Nat, i ≤ 8 ∧ x40 = .int .i64 (i : Int) ∧ JB wr w.heap.size db half 0 (tpre u i) z32 (.slice none 0 0) (.slice none 0 0) false ∧ Far w.heap.size w3 wr) (fun x40 _ => 8 - (intOf x40).toNat)
  case atStart => exact ⟨0, by decide, rfl, by rw [show tpre u 0 = 0 from Nat.div_eq_of_lt HU.out]; exact J3.out, Far.refl _ _⟩
  case round =>
    obtain ⟨i, hi, rfl, hj, hf⟩ := hrel
    have JR := hid hj
    have FR := hid hf
    have HVr := hid (HV3.out.keep (Keep.far' hf) (fun k _ e => by cases e; exact J3.out.noBy))
    clear hj hf
    by_cases hlt : i < 8
    case neg =>
      obtain rfl : i = 8 := by omega
      rw [show tpre u 8 = u by unfold tpre; simp] at JR
      have c3 := JR.out.c3
      have u0 : ((u : Int) == 0) = false := by have := HU0.out; rw [beq_eq_false_iff_ne]; omega
      have u0' : (u == 0) = false := by have := HU0.out; rw [beq_eq_false_iff_ne]; omega
      have s3 : (8 : Int) ≤ (n : Int) := by have := N8.out; omega
      have s4 : (8 : Nat) ≤ n := by have := N8.out; omega
      have s5 : (n : Int) ≤ (c : Int) := by have := N8.out; omega
      clear hlt hi t1' t2 s1
      go_upto_region 12 with (fail)
      have HSr := hid (show wr.rangeAt w2.heap.size 0 (nums .u8 h0) from row_range (heap_far h3.out FR.out (by have := J2.out.lt; omega)))
      have hne := hid (show w2.heap.size ≠ w.heap.size by have := J2.out.lt; omega)
      have hiZl := hid (show (Tryz.prog.info? 62).map (·.size) = some (nums .u8 h0).length by rw [nums_length, lh.out]; kernel_rfl)
      have hz0 := hid (show (nums .u8 h0).toArray.size = 32 by rw [List.size_toArray, nums_length, lh.out])
      refine wp_region_held_drew (S := fun w' => w'.rangeAt w2.heap.size 0 (nums .u8 h0)) (by kernel_rfl) ((fun j v hv => HSr.out j v hv)) (fun hHeld => ?_)
      try simp only [List.size_toArray, List.length_cons, List.length_nil, Nat.reduceAdd, Array.replicate_succ, Array.replicate_zero, List.push_toArray, List.nil_append, List.cons_append]
      refine wpAnyH_take (i := 0) (oi := { dst := some 61, op := Op.move (Operand.tmp 6), type := 26, pos := "journal.go:103", after := #[], guard := none }) (v := ?v1001) rfl (by kernel_rfl) (by kernel_rfl) (by kernel_rfl) (fun _ _ _ h => h) (Or.inl ⟨by rfl, ?hy1001⟩) hHeld ?_
      case hy1001 => (intro w hSw; (try dsimp only at hSw); go_simp; (try with_reducible rfl))
      (try simp only [Act.put, List.setIfInBounds_toArray, List.set_cons_zero, List.set_cons_succ])
      refine wpAnyH_take (i := 1) (oi := { dst := some 62, op := Op.move (Operand.tmp 6), type := 26, pos := "journal.go:103", after := #[{ on := 9, ground := Ground.gcOnly Departure.lateStores }], guard := none }) (v := ?v1002) rfl (by kernel_rfl) (by kernel_rfl) (by kernel_rfl) (fun _ _ _ h => h) (Or.inl ⟨by rfl, ?hy1002⟩) hHeld ?_
      case hy1002 => (intro w hSw; (try dsimp only at hSw); go_simp; (try with_reducible rfl))
      (try simp only [Act.put, List.setIfInBounds_toArray, List.set_cons_zero, List.set_cons_succ])
      refine wpAnyH_take (i := 2) (oi := { dst := some 63, op := Op.move (Operand.tmp 6), type := 26, pos := "journal.go:103", after := #[{ on := 12, ground := Ground.gcOnly Departure.lateStores }], guard := none }) (v := ?v1003) rfl (by kernel_rfl) (by kernel_rfl) (by kernel_rfl) (fun _ _ _ h => h) (Or.inl ⟨by rfl, ?hy1003⟩) hHeld ?_
      case hy1003 => (intro w hSw; (try dsimp only at hSw); go_simp; (try with_reducible rfl))
      (try simp only [Act.put, List.setIfInBounds_toArray, List.set_cons_zero, List.set_cons_succ])
      refine wpAnyH_take (i := 3) (oi := { dst := some 64, op := Op.move (Operand.tmp 7), type := 22, pos := "journal.go:103", after := #[], guard := none }) (v := ?v1004) rfl (by kernel_rfl) (by kernel_rfl) (by kernel_rfl) (fun _ _ _ h => h) (Or.inl ⟨by rfl, ?hy1004⟩) hHeld ?_
      case hy1004 => (intro w hSw; (try dsimp only at hSw); go_simp; (try with_reducible rfl))
      (try simp only [Act.put, List.setIfInBounds_toArray, List.set_cons_zero, List.set_cons_succ])
      refine wpAnyH_take (i := 4) (oi := { dst := some 65, op := Op.slice 22 (Operand.tmp 64) (some (Operand.const (Value.int IntKind.i64 8))) none none, type := 22, pos := "journal.go:103", after := #[{ on := 3, ground := Ground.data }], guard := none }) (v := ?v1005) rfl (by kernel_rfl) (by kernel_rfl) (by kernel_rfl) (fun _ _ _ h => h) (Or.inl ⟨by rfl, ?hy1005⟩) hHeld ?_
      case hy1005 => (intro w hSw; (try dsimp only at hSw); go_simp; (try with_reducible rfl))
      (try simp only [Act.put, List.setIfInBounds_toArray, List.set_cons_zero, List.set_cons_succ])
      refine' wpAnyH_take (i := 5) (oi := { dst := some 66, op := Op.load 62 (Operand.tmp 8), type := 62, pos := "journal.go:103", after := #[{ on := 9, ground := Ground.gcOnly Departure.lateStores }], guard := none }) (v := _) rfl (by kernel_rfl) (by kernel_rfl) (by kernel_rfl) (fun _ _ _ h => h) (yieldsIf_load_mid (by rfl) _ _ rfl w2.heap.size 0 rfl (nums .u8 h0) _ (fun _ h => h) Tryz.underlying62 rfl hiZl.out) hHeld ?_
      (try simp only [Act.put, List.setIfInBounds_toArray, List.set_cons_zero, List.set_cons_succ])
      refine wpAnyH_take (i := 6) (oi := { dst := some 67, op := Op.move (Operand.tmp 9), type := 3, pos := "journal.go:103", after := #[{ on := 12, ground := Ground.gcOnly Departure.lateStores }], guard := none }) (v := ?v1006) rfl (by kernel_rfl) (by kernel_rfl) (by kernel_rfl) (fun _ _ _ h => h) (Or.inl ⟨by rfl, ?hy1006⟩) hHeld ?_
      case hy1006 => (intro w hSw; (try dsimp only at hSw); go_simp; (try with_reducible rfl))
      (try simp only [Act.put, List.setIfInBounds_toArray, List.set_cons_zero, List.set_cons_succ])
      refine wpAnyH_take (i := 7) (oi := { dst := some 68, op := Op.nilCheck (Operand.tmp 61), type := 0, pos := "journal.go:103", after := #[{ on := 0, ground := Ground.data }, { on := 0, ground := Ground.phase }, { on := 1, ground := Ground.textOnly Departure.lateStores }, { on := 2, ground := Ground.textOnly Departure.lateStores }, { on := 3, ground := Ground.phase }, { on := 4, ground := Ground.phase }, { on := 5, ground := Ground.textOnly Departure.lateStores }, { on := 6, ground := Ground.textOnly Departure.lateStores }], guard := none }) (v := ?v1007) rfl (by kernel_rfl) (by kernel_rfl) (by kernel_rfl) (fun _ _ _ h => h) (Or.inl ⟨by rfl, ?hy1007⟩) hHeld ?_
      case hy1007 => (intro w hSw; (try dsimp only at hSw); go_simp; (try with_reducible rfl))
      (try simp only [Act.put, List.setIfInBounds_toArray, List.set_cons_zero, List.set_cons_succ])
      refine wpAnyH_take (i := 8) (oi := { dst := some 69, op := Op.fieldAddr 64 (Operand.tmp 68) 5, type := 0, pos := "journal.go:103", after := #[{ on := 7, ground := Ground.data }, { on := 0, ground := Ground.phase }, { on := 1, ground := Ground.textOnly Departure.lateStores }, { on := 2, ground := Ground.textOnly Departure.lateStores }, { on := 3, ground := Ground.phase }, { on := 4, ground := Ground.phase }, { on := 5, ground := Ground.textOnly Departure.lateStores }, { on := 6, ground := Ground.textOnly Departure.lateStores }], guard := none }) (v := ?v1008) rfl (by kernel_rfl) (by kernel_rfl) (by kernel_rfl) (fun _ _ _ h => h) (Or.inl ⟨by rfl, ?hy1008⟩) hHeld ?_
      case hy1008 => (intro w hSw; (try dsimp only at hSw); go_simp; (try with_reducible rfl))
      (try simp only [Act.put, List.setIfInBounds_toArray, List.set_cons_zero, List.set_cons_succ])
      refine wpAnyH_ready (rs := [9]) (by kernel_rfl) (by simp) ?_
      refine AllReadyH.cons (o := { dst := none, op := Op.store 22 (Operand.tmp 69) (Operand.tmp 65), type := 0, pos := "journal.go:103", after := #[{ on := 8, ground := Ground.data }, { on := 4, ground := Ground.data }, { on := 0, ground := Ground.phase }, { on := 1, ground := Ground.textOnly Departure.lateStores }, { on := 2, ground := Ground.textOnly Departure.lateStores }, { on := 3, ground := Ground.phase }, { on := 4, ground := Ground.phase }, { on := 5, ground := Ground.textOnly Departure.lateStores }, { on := 6, ground := Ground.textOnly Departure.lateStores }], guard := none }) rfl (fun K hK => ?_) ?_
      have jd := JR.out.below (Below.refl _ _).drew; have c9 := jd.c36; have z9 := jd.fz 36; go_simp; refine jd.set36 _ ?_; intro w7 j7 f7; have J7 := hid j7.out; have F7 := hid f7.out; clear j7 f7 jd c9 z9
      refine hK.out _ _ (range_far F7.out (range_keep (Below.refl _ _).drew HSr.out) hne.out) (fun hHeld => ?_)
      clear hK K
      (try simp only [List.setIfInBounds_toArray, List.set_cons_zero, List.set_cons_succ])
      refine wpAnyH_take (i := 10) (oi := { dst := some 70, op := Op.nilCheck (Operand.tmp 62), type := 0, pos := "journal.go:103", after := #[{ on := 1, ground := Ground.data }, { on := 0, ground := Ground.phase }, { on := 1, ground := Ground.phase }, { on := 2, ground := Ground.textOnly Departure.lateStores }, { on := 3, ground := Ground.phase }, { on := 4, ground := Ground.phase }, { on := 5, ground := Ground.phase }, { on := 6, ground := Ground.textOnly Departure.lateStores }, { on := 7, ground := Ground.phase }, { on := 8, ground := Ground.phase }, { on := 9, ground := Ground.phase }], guard := none }) (v := ?v1009) rfl (by kernel_rfl) (by kernel_rfl) (by kernel_rfl) (fun _ _ _ h => h) (Or.inl ⟨by rfl, ?hy1009⟩) hHeld ?_
      case hy1009 => (intro w hSw; (try dsimp only at hSw); go_simp; (try with_reducible rfl))
      (try simp only [Act.put, List.setIfInBounds_toArray, List.set_cons_zero, List.set_cons_succ])
      refine wpAnyH_take (i := 11) (oi := { dst := some 71, op := Op.fieldAddr 64 (Operand.tmp 70) 4, type := 0, pos := "journal.go:103", after := #[{ on := 10, ground := Ground.data }, { on := 0, ground := Ground.phase }, { on := 1, ground := Ground.phase }, { on := 2, ground := Ground.textOnly Departure.lateStores }, { on := 3, ground := Ground.phase }, { on := 4, ground := Ground.phase }, { on := 5, ground := Ground.phase }, { on := 6, ground := Ground.textOnly Departure.lateStores }, { on := 7, ground := Ground.phase }, { on := 8, ground := Ground.phase }, { on := 9, ground := Ground.phase }], guard := none }) (v := ?v1010) rfl (by kernel_rfl) (by kernel_rfl) (by kernel_rfl) (fun _ _ _ h => h) (Or.inl ⟨by rfl, ?hy1010⟩) hHeld ?_
      case hy1010 => (intro w hSw; (try dsimp only at hSw); go_simp; (try with_reducible rfl))
      (try simp only [Act.put, List.setIfInBounds_toArray, List.set_cons_zero, List.set_cons_succ])
      refine wpAnyH_ready (rs := [12]) (by kernel_rfl) (by simp) ?_
      refine AllReadyH.cons (o := { dst := none, op := Op.store 62 (Operand.tmp 71) (Operand.tmp 66), type := 0, pos := "journal.go:103", after := #[{ on := 11, ground := Ground.data }, { on := 5, ground := Ground.data }, { on := 9, ground := Ground.chain }, { on := 0, ground := Ground.phase }, { on := 1, ground := Ground.phase }, { on := 2, ground := Ground.textOnly Departure.lateStores }, { on := 3, ground := Ground.phase }, { on := 4, ground := Ground.phase }, { on := 5, ground := Ground.phase }, { on := 6, ground := Ground.textOnly Departure.lateStores }, { on := 7, ground := Ground.phase }, { on := 8, ground := Ground.phase }, { on := 9, ground := Ground.phase }], guard := none }) rfl (fun K hK => ?_) ?_
      rw [if_pos (by rfl)]; refine wp_store_mid _ _ _ rfl w.heap.size 4 (nums .u8 h0).toArray rfl rfl (by rw [hz0.out]; exact J7.out.there) hiZ.out hz1.out ?_; simp only []; refine J7.out.setC h0 lh.out ?_; intro w8 j8 f8; have J8 := hid j8.out; have F8 := hid f8.out; clear j8 f8
      refine hK.out _ _ (range_far F8.out hHeld hne.out) (fun hHeld => ?_)
      clear hK K
      (try simp only [List.setIfInBounds_toArray, List.set_cons_zero, List.set_cons_succ])
      refine wpAnyH_take (i := 13) (oi := { dst := some 72, op := Op.nilCheck (Operand.tmp 63), type := 0, pos := "journal.go:103", after := #[{ on := 2, ground := Ground.data }, { on := 0, ground := Ground.phase }, { on := 1, ground := Ground.phase }, { on := 2, ground := Ground.phase }, { on := 3, ground := Ground.phase }, { on := 4, ground := Ground.phase }, { on := 5, ground := Ground.phase }, { on := 6, ground := Ground.phase }, { on := 7, ground := Ground.phase }, { on := 8, ground := Ground.phase }, { on := 9, ground := Ground.phase }, { on := 10, ground := Ground.phase }, { on := 11, ground := Ground.phase }, { on := 12, ground := Ground.phase }], guard := none }) (v := ?v1011) rfl (by kernel_rfl) (by kernel_rfl) (by kernel_rfl) (fun _ _ _ h => h) (Or.inl ⟨by rfl, ?hy1011⟩) hHeld ?_
      case hy1011 => (intro w hSw; (try dsimp only at hSw); go_simp; (try with_reducible rfl))
      (try simp only [Act.put, List.setIfInBounds_toArray, List.set_cons_zero, List.set_cons_succ])
      refine wpAnyH_take (i := 14) (oi := { dst := some 73, op := Op.fieldAddr 64 (Operand.tmp 72) 2, type := 0, pos := "journal.go:103", after := #[{ on := 13, ground := Ground.data }, { on := 0, ground := Ground.phase }, { on := 1, ground := Ground.phase }, { on := 2, ground := Ground.phase }, { on := 3, ground := Ground.phase }, { on := 4, ground := Ground.phase }, { on := 5, ground := Ground.phase }, { on := 6, ground := Ground.phase }, { on := 7, ground := Ground.phase }, { on := 8, ground := Ground.phase }, { on := 9, ground := Ground.phase }, { on := 10, ground := Ground.phase }, { on := 11, ground := Ground.phase }, { on := 12, ground := Ground.phase }], guard := none }) (v := ?v1012) rfl (by kernel_rfl) (by kernel_rfl) (by kernel_rfl) (fun _ _ _ h => h) (Or.inl ⟨by rfl, ?hy1012⟩) hHeld ?_
      case hy1012 => (intro w hSw; (try dsimp only at hSw); go_simp; (try with_reducible rfl))
      (try simp only [Act.put, List.setIfInBounds_toArray, List.set_cons_zero, List.set_cons_succ])
      refine wpAnyH_ready (rs := [15]) (by kernel_rfl) (by simp) ?_
      refine AllReadyH.cons (o := { dst := none, op := Op.store 3 (Operand.tmp 73) (Operand.tmp 67), type := 0, pos := "journal.go:103", after := #[{ on := 14, ground := Ground.data }, { on := 6, ground := Ground.data }, { on := 12, ground := Ground.chain }, { on := 0, ground := Ground.phase }, { on := 1, ground := Ground.phase }, { on := 2, ground := Ground.phase }, { on := 3, ground := Ground.phase }, { on := 4, ground := Ground.phase }, { on := 5, ground := Ground.phase }, { on := 6, ground := Ground.phase }, { on := 7, ground := Ground.phase }, { on := 8, ground := Ground.phase }, { on := 9, ground := Ground.phase }, { on := 10, ground := Ground.phase }, { on := 11, ground := Ground.phase }, { on := 12, ground := Ground.phase }], guard := none }) rfl (fun K hK => ?_) ?_
      have c9 := J8.out.c2; have z9 := J8.out.fz 2; go_simp; refine J8.out.set2 _ ?_; intro w9 j9 f9; have J9 := hid j9.out; have F9 := hid f9.out; clear j9 f9 c9 z9
      refine hK.out _ _ (range_far F9.out hHeld hne.out) (fun hHeld => ?_)
      clear hK K
      (try simp only [List.setIfInBounds_toArray, List.set_cons_zero, List.set_cons_succ])
      refine wpAnyH_done (by kernel_rfl) ?_ _
      rotate_left
      exact AllReadyH.nil
      exact AllReadyH.nil
      exact AllReadyH.nil
      have FF := (F7.out.trans F8.out).trans F9.out
      have F0 := (Far.of (H := w.heap.size) (Below.refl wr.heap.size wr).drew).trans FF
      have I9 := hid (show LdI w C w.heap.size db half u st rs p ck w9 from by
        refine ⟨⟨_, .slice none 0 0, [], rs, t1, h0, [], Nat.zero_le _, J9.out, ?_, fun d hd => ?_, rfl, ⟨rfl, .inl ⟨rfl, rfl⟩⟩, JRs.nil _, CH.out, RO.out.2.2.2⟩, B3.out.trans (FR.out.below (Nat.le_refl _) B3.out.size |>.trans (F0.below (Nat.le_refl _) (Nat.le_trans B3.out.size FR.out.size)))⟩
        · have y := HVr.out.part (i := 8) (m := n - 8) (by have := N8.out; omega)
          rw [List.drop_left' (be8_len u), List.take_of_length_le (by have := N8.out; omega)] at y
          have y2 := y.keep (Keep.far' F0) (fun k _ e => by cases e; exact JR.out.noBy)
          exact y2
        · rw [RO.out.2.1] at hd
          exact (recH_ok _ _).2 d hd)
      clear FF F0 F7 F8 F9 J7 J8 J9 HSr hne hHeld JR FR HVr HV HV3 J2 J3 h3 b3 c3 B3 s2 s3 s4 s5 hiZ hz1 hoZ hiZl hz0 u0 u0'
      go_upto_region 13 with (fail)
      go_loopw [13] (fun _ wr => LdI w C w.heap.size db half u st rs p ck wr) (fun _ wr => C.length - nextOf wr w.heap.size)
      case atStart => exact I9.out
      case round =>
        obtain ⟨⟨svx, rv, done, rest, nx, cx, vs, dn, jx, yx, cx8, hrs, ox, rx, chx, nxl⟩, bx⟩ := hrel
        have JX := hid jx
        have YX := hid yx
        have C8 := hid cx8
        have RSE := hid hrs
        have OX := hid ox
        have RX := hid rx
        have NXL := hid nxl
        have DN := hid dn
        have BX := hid bx
        have DI := hid (H.out.below bx)
        have HTr := hid (HT.out.below bx)
        have FEW := hid H.out.few
        have JRD := fun (wx : World) (bx : Below wr.heap.size wr wx) => hid (jread_walk (DI.out.below bx) half HH.out nx (by have := NXL.out; have := FEW.out; omega) cx JX.out.l32 C8.out (HTr.out.below bx))
        have c2 := hid jx.c2
        have rgx := hid jx.rng
        have hix := hid (show (Tryz.prog.info? 62).map (·.size) = some (nums .u8 cx).length by rw [nums_length, jx.l32]; kernel_rfl)
        clear jx yx cx8 hrs ox rx bx nxl dn
        go_upto_region 13 with (fail)
        cases rest with
        | nil =>
          obtain ⟨hno, rfl, rfl⟩ := chx
          have NO := hid hno
          clear hno
          have hiZ := hid (show (Tryz.prog.info? 62).map (·.size) = some (nums .u8 z32).toArray.size by kernel_rfl)
          have hz1 := hid (all_oneCell_toArray (nums_oneCell .u8 z32))
          refine wp_region_held_drew (S := fun w' => Below wr.heap.size wr w') (by kernel_rfl) ((Below.refl _ _).drew) (fun hHeld => ?_)
          try simp only [List.size_toArray, List.length_cons, List.length_nil, Nat.reduceAdd, Array.replicate_succ, Array.replicate_zero, List.push_toArray, List.nil_append, List.cons_append]
          refine wpAnyH_take (i := 0) (oi := { dst := some 75, op := Op.move (Operand.tmp 0), type := 24, pos := "journal.go:105", after := #[], guard := none }) (v := ?v2001) rfl (by kernel_rfl) (by kernel_rfl) (by kernel_rfl) (fun _ _ _ h => h) (Or.inl ⟨by rfl, ?hy2001⟩) hHeld ?_
          case hy2001 => (intro w hSw; (try dsimp only at hSw); go_simp; (try with_reducible rfl))
          (try simp only [Act.put, List.setIfInBounds_toArray, List.set_cons_zero, List.set_cons_succ])
          refine wpAnyH_take (i := 1) (oi := { dst := some 76, op := Op.move (Operand.tmp 1), type := 3, pos := "journal.go:105", after := #[], guard := none }) (v := ?v2002) rfl (by kernel_rfl) (by kernel_rfl) (by kernel_rfl) (fun _ _ _ h => h) (Or.inl ⟨by rfl, ?hy2002⟩) hHeld ?_
          case hy2002 => (intro w hSw; (try dsimp only at hSw); go_simp; (try with_reducible rfl))
          (try simp only [Act.put, List.setIfInBounds_toArray, List.set_cons_zero, List.set_cons_succ])
          refine wpAnyH_take (i := 2) (oi := { dst := some 77, op := Op.move (Operand.tmp 6), type := 26, pos := "journal.go:105", after := #[], guard := none }) (v := ?v2003) rfl (by kernel_rfl) (by kernel_rfl) (by kernel_rfl) (fun _ _ _ h => h) (Or.inl ⟨by rfl, ?hy2003⟩) hHeld ?_
          case hy2003 => (intro w hSw; (try dsimp only at hSw); go_simp; (try with_reducible rfl))
          (try simp only [Act.put, List.setIfInBounds_toArray, List.set_cons_zero, List.set_cons_succ])
          refine wpAnyH_take (i := 3) (oi := { dst := some 78, op := Op.nilCheck (Operand.tmp 77), type := 0, pos := "journal.go:105", after := #[{ on := 2, ground := Ground.data }], guard := none }) (v := ?v2004) rfl (by kernel_rfl) (by kernel_rfl) (by kernel_rfl) (fun _ _ _ h => h) (Or.inl ⟨by rfl, ?hy2004⟩) hHeld ?_
          case hy2004 => (intro w hSw; (try dsimp only at hSw); go_simp; (try with_reducible rfl))
          (try simp only [Act.put, List.setIfInBounds_toArray, List.set_cons_zero, List.set_cons_succ])
          refine wpAnyH_take (i := 4) (oi := { dst := some 79, op := Op.fieldAddr 64 (Operand.tmp 78) 2, type := 0, pos := "journal.go:105", after := #[{ on := 3, ground := Ground.data }], guard := none }) (v := ?v2005) rfl (by kernel_rfl) (by kernel_rfl) (by kernel_rfl) (fun _ _ _ h => h) (Or.inl ⟨by rfl, ?hy2005⟩) hHeld ?_
          case hy2005 => (intro w hSw; (try dsimp only at hSw); go_simp; (try with_reducible rfl))
          (try simp only [Act.put, List.setIfInBounds_toArray, List.set_cons_zero, List.set_cons_succ])
          refine wpAnyH_take (i := 5) (oi := { dst := some 80, op := Op.load 3 (Operand.tmp 79), type := 3, pos := "journal.go:105", after := #[{ on := 4, ground := Ground.data }], guard := none }) (v := (.int .i64 (p : Int))) rfl (by kernel_rfl) (by kernel_rfl) (by kernel_rfl) (fun _ _ _ h => h) (Or.inl ⟨by rfl, fun w h => by have c9 := cell_keep h c2.out; go_simp⟩) hHeld ?_
          (try simp only [Act.put, List.setIfInBounds_toArray, List.set_cons_zero, List.set_cons_succ])
          refine wpAnyH_take (i := 6) (oi := { dst := some 81, op := Op.move (Operand.tmp 6), type := 26, pos := "journal.go:105", after := #[], guard := none }) (v := ?v2006) rfl (by kernel_rfl) (by kernel_rfl) (by kernel_rfl) (fun _ _ _ h => h) (Or.inl ⟨by rfl, ?hy2006⟩) hHeld ?_
          case hy2006 => (intro w hSw; (try dsimp only at hSw); go_simp; (try with_reducible rfl))
          (try simp only [Act.put, List.setIfInBounds_toArray, List.set_cons_zero, List.set_cons_succ])
          refine wpAnyH_take (i := 7) (oi := { dst := some 82, op := Op.nilCheck (Operand.tmp 81), type := 0, pos := "journal.go:105", after := #[{ on := 6, ground := Ground.data }], guard := none }) (v := ?v2007) rfl (by kernel_rfl) (by kernel_rfl) (by kernel_rfl) (fun _ _ _ h => h) (Or.inl ⟨by rfl, ?hy2007⟩) hHeld ?_
          case hy2007 => (intro w hSw; (try dsimp only at hSw); go_simp; (try with_reducible rfl))
          (try simp only [Act.put, List.setIfInBounds_toArray, List.set_cons_zero, List.set_cons_succ])
          refine wpAnyH_take (i := 8) (oi := { dst := some 83, op := Op.fieldAddr 64 (Operand.tmp 82) 4, type := 0, pos := "journal.go:105", after := #[{ on := 7, ground := Ground.data }], guard := none }) (v := ?v2008) rfl (by kernel_rfl) (by kernel_rfl) (by kernel_rfl) (fun _ _ _ h => h) (Or.inl ⟨by rfl, ?hy2008⟩) hHeld ?_
          case hy2008 => (intro w hSw; (try dsimp only at hSw); go_simp; (try with_reducible rfl))
          (try simp only [Act.put, List.setIfInBounds_toArray, List.set_cons_zero, List.set_cons_succ])
          refine' wpAnyH_take (i := 9) (oi := { dst := some 84, op := Op.load 62 (Operand.tmp 83), type := 62, pos := "journal.go:105", after := #[{ on := 8, ground := Ground.data }], guard := none }) (v := _) rfl (by kernel_rfl) (by kernel_rfl) (by kernel_rfl) (fun _ _ _ h => h) (yieldsIf_load_mid (by rfl) _ _ rfl w.heap.size 4 rfl (nums .u8 ck) _ (fun _ h => range_keep h rgx.out) Tryz.underlying62 rfl hix.out) hHeld ?_
          (try simp only [Act.put, List.setIfInBounds_toArray, List.set_cons_zero, List.set_cons_succ])
          refine wpAnyH_ready (rs := [10, 16]) (by kernel_rfl) (by simp) ?_
          refine AllReadyH.cons (o := { dst := some 85, op := Op.call { callee := Callee.value (Operand.func 40), args := #[Operand.tmp 75, Operand.tmp 76, Operand.tmp 80, Operand.tmp 84], argTypes := #[24, 3, 3, 62] }, type := 89, pos := "journal.go:105", after := #[{ on := 0, ground := Ground.data }, { on := 1, ground := Ground.data }, { on := 5, ground := Ground.data }, { on := 9, ground := Ground.data }], guard := none }) rfl (fun K hK => ?_) ?_
          go_simp; refine (JRD _ hHeld).out.mono ?_; rintro e w5 ⟨hr5, b5⟩; rw [NO.out] at hr5; subst hr5; have B5 := hid b5; clear b5
          refine hK.out _ _ (hHeld.trans (B5.out.mono hHeld.size)) (fun hHeld => ?_)
          clear hK K
          (try simp only [List.setIfInBounds_toArray, List.set_cons_zero, List.set_cons_succ])
          refine wpAnyH_take (i := 11) (oi := { dst := some 74, op := Op.move (Operand.tmp 85), type := 89, pos := "journal.go:105", after := #[{ on := 10, ground := Ground.data }], guard := none }) (v := ?v2009) rfl (by kernel_rfl) (by kernel_rfl) (by kernel_rfl) (fun _ _ _ h => h) (Or.inl ⟨by rfl, ?hy2009⟩) hHeld ?_
          case hy2009 => (intro w hSw; (try dsimp only at hSw); go_simp; (try with_reducible rfl))
          (try simp only [Act.put, List.setIfInBounds_toArray, List.set_cons_zero, List.set_cons_succ])
          refine wpAnyH_take (i := 12) (oi := { dst := some 86, op := Op.extract (Operand.tmp 74) 0, type := 22, pos := "journal.go:105", after := #[{ on := 11, ground := Ground.data }], guard := none }) (v := ?v2010) rfl (by kernel_rfl) (by kernel_rfl) (by kernel_rfl) (fun _ _ _ h => h) (Or.inl ⟨by rfl, ?hy2010⟩) hHeld ?_
          case hy2010 => (intro w hSw; (try dsimp only at hSw); go_simp; (try with_reducible rfl))
          (try simp only [Act.put, List.setIfInBounds_toArray, List.set_cons_zero, List.set_cons_succ])
          refine wpAnyH_take (i := 13) (oi := { dst := some 87, op := Op.extract (Operand.tmp 74) 1, type := 62, pos := "journal.go:105", after := #[{ on := 11, ground := Ground.data }, { on := 17, ground := Ground.gcOnly Departure.lateStores }], guard := none }) (v := ?v2011) rfl (by kernel_rfl) (by kernel_rfl) (by kernel_rfl) (fun _ _ _ h => h) (Or.inl ⟨by rfl, ?hy2011⟩) hHeld ?_
          case hy2011 => (intro w hSw; (try dsimp only at hSw); go_simp; (try with_reducible rfl))
          (try simp only [Act.put, List.setIfInBounds_toArray, List.set_cons_zero, List.set_cons_succ])
          refine wpAnyH_take (i := 14) (oi := { dst := some 88, op := Op.extract (Operand.tmp 74) 2, type := 3, pos := "journal.go:105", after := #[{ on := 11, ground := Ground.data }, { on := 18, ground := Ground.gcOnly Departure.lateStores }], guard := none }) (v := ?v2012) rfl (by kernel_rfl) (by kernel_rfl) (by kernel_rfl) (fun _ _ _ h => h) (Or.inl ⟨by rfl, ?hy2012⟩) hHeld ?_
          case hy2012 => (intro w hSw; (try dsimp only at hSw); go_simp; (try with_reducible rfl))
          (try simp only [Act.put, List.setIfInBounds_toArray, List.set_cons_zero, List.set_cons_succ])
          refine wpAnyH_take (i := 15) (oi := { dst := some 89, op := Op.extract (Operand.tmp 74) 3, type := 4, pos := "journal.go:105", after := #[{ on := 11, ground := Ground.data }, { on := 19, ground := Ground.gcOnly Departure.lateStores }], guard := none }) (v := ?v2013) rfl (by kernel_rfl) (by kernel_rfl) (by kernel_rfl) (fun _ _ _ h => h) (Or.inl ⟨by rfl, ?hy2013⟩) hHeld ?_
          case hy2013 => (intro w hSw; (try dsimp only at hSw); go_simp; (try with_reducible rfl))
          (try simp only [Act.put, List.setIfInBounds_toArray, List.set_cons_zero, List.set_cons_succ])
          refine wpAnyH_ready (rs := [16]) (by kernel_rfl) (by simp) ?_
          refine AllReadyH.cons (o := { dst := some 14, op := Op.alloc 62, type := 0, pos := "journal.go:105", after := #[], guard := none }) rfl (fun K hK => ?_) ?_
          go_simp; (first | refine newZ ?_ | refine newZd ?_); intro wa hpa bpa; have HVn := hid hpa; have BV := hid bpa; have BVL := hid hHeld.size; clear hpa bpa
          refine hK.out _ _ (by first | exact hHeld.trans (BV.out.mono hHeld.size) | exact BV.out | exact hHeld.trans (BV.out.out.mono hHeld.size)) (fun hHeld => ?_)
          clear hK K
          (try simp only [List.setIfInBounds_toArray, List.set_cons_zero, List.set_cons_succ])
          refine wpAnyH_take (i := 17) (oi := { dst := some 13, op := Op.assign (Operand.tmp 86), type := 22, pos := "journal.go:105", after := #[{ on := 12, ground := Ground.data }, { on := 10, ground := Ground.chain }, { on := 0, ground := Ground.phase }, { on := 1, ground := Ground.phase }, { on := 2, ground := Ground.phase }, { on := 3, ground := Ground.phase }, { on := 4, ground := Ground.phase }, { on := 5, ground := Ground.phase }, { on := 6, ground := Ground.phase }, { on := 7, ground := Ground.phase }, { on := 8, ground := Ground.phase }, { on := 9, ground := Ground.phase }, { on := 10, ground := Ground.phase }, { on := 11, ground := Ground.phase }, { on := 12, ground := Ground.phase }, { on := 13, ground := Ground.textOnly Departure.lateStores }, { on := 14, ground := Ground.textOnly Departure.lateStores }, { on := 15, ground := Ground.textOnly Departure.lateStores }, { on := 16, ground := Ground.phase }], guard := none }) (v := ?v2014) rfl (by kernel_rfl) (by kernel_rfl) (by kernel_rfl) (fun _ _ _ h => h) (Or.inl ⟨by rfl, ?hy2014⟩) hHeld ?_
          case hy2014 => (intro w hSw; (try dsimp only at hSw); go_simp; (try with_reducible rfl))
          (try simp only [Act.put, List.setIfInBounds_toArray, List.set_cons_zero, List.set_cons_succ])
          refine wpAnyH_ready (rs := [18]) (by kernel_rfl) (by simp) ?_
          refine AllReadyH.cons (o := { dst := none, op := Op.store 62 (Operand.tmp 14) (Operand.tmp 87), type := 0, pos := "journal.go:105", after := #[{ on := 16, ground := Ground.data }, { on := 13, ground := Ground.data }, { on := 17, ground := Ground.chain }, { on := 0, ground := Ground.phase }, { on := 1, ground := Ground.phase }, { on := 2, ground := Ground.phase }, { on := 3, ground := Ground.phase }, { on := 4, ground := Ground.phase }, { on := 5, ground := Ground.phase }, { on := 6, ground := Ground.phase }, { on := 7, ground := Ground.phase }, { on := 8, ground := Ground.phase }, { on := 9, ground := Ground.phase }, { on := 10, ground := Ground.phase }, { on := 11, ground := Ground.phase }, { on := 12, ground := Ground.phase }, { on := 13, ground := Ground.phase }, { on := 14, ground := Ground.textOnly Departure.lateStores }, { on := 15, ground := Ground.textOnly Departure.lateStores }, { on := 16, ground := Ground.phase }, { on := 17, ground := Ground.phase }], guard := none }) rfl (fun K hK => ?_) ?_
          rw [if_pos (by rfl)]; refine wp_store_row _ _ _ rfl _ (nums .u8 z32).toArray rfl rfl _ _ (by first | exact HVn.out.out | exact heap_keep HVn.out.out B5.out | exact HVn.out | exact heap_keep HVn.out B5.out) hiZ.out rfl hz1.out ?_
          refine hK.out _ _ (below_setRow hHeld BVL.out _) (fun hHeld => ?_)
          clear hK K
          (try simp only [List.setIfInBounds_toArray, List.set_cons_zero, List.set_cons_succ])
          refine wpAnyH_take (i := 19) (oi := { dst := some 15, op := Op.assign (Operand.tmp 88), type := 3, pos := "journal.go:105", after := #[{ on := 14, ground := Ground.data }, { on := 18, ground := Ground.chain }, { on := 0, ground := Ground.phase }, { on := 1, ground := Ground.phase }, { on := 2, ground := Ground.phase }, { on := 3, ground := Ground.phase }, { on := 4, ground := Ground.phase }, { on := 5, ground := Ground.phase }, { on := 6, ground := Ground.phase }, { on := 7, ground := Ground.phase }, { on := 8, ground := Ground.phase }, { on := 9, ground := Ground.phase }, { on := 10, ground := Ground.phase }, { on := 11, ground := Ground.phase }, { on := 12, ground := Ground.phase }, { on := 13, ground := Ground.phase }, { on := 14, ground := Ground.phase }, { on := 15, ground := Ground.textOnly Departure.lateStores }, { on := 16, ground := Ground.phase }, { on := 17, ground := Ground.phase }, { on := 18, ground := Ground.phase }], guard := none }) (v := ?v2015) rfl (by kernel_rfl) (by kernel_rfl) (by kernel_rfl) (fun _ _ _ h => h) (Or.inl ⟨by rfl, ?hy2015⟩) hHeld ?_
          case hy2015 => (intro w hSw; (try dsimp only at hSw); go_simp; (try with_reducible rfl))
          (try simp only [Act.put, List.setIfInBounds_toArray, List.set_cons_zero, List.set_cons_succ])
          refine wpAnyH_take (i := 20) (oi := { dst := some 16, op := Op.assign (Operand.tmp 89), type := 4, pos := "journal.go:105", after := #[{ on := 15, ground := Ground.data }, { on := 19, ground := Ground.chain }, { on := 0, ground := Ground.phase }, { on := 1, ground := Ground.phase }, { on := 2, ground := Ground.phase }, { on := 3, ground := Ground.phase }, { on := 4, ground := Ground.phase }, { on := 5, ground := Ground.phase }, { on := 6, ground := Ground.phase }, { on := 7, ground := Ground.phase }, { on := 8, ground := Ground.phase }, { on := 9, ground := Ground.phase }, { on := 10, ground := Ground.phase }, { on := 11, ground := Ground.phase }, { on := 12, ground := Ground.phase }, { on := 13, ground := Ground.phase }, { on := 14, ground := Ground.phase }, { on := 15, ground := Ground.phase }, { on := 16, ground := Ground.phase }, { on := 17, ground := Ground.phase }, { on := 18, ground := Ground.phase }, { on := 19, ground := Ground.phase }], guard := none }) (v := ?v2016) rfl (by kernel_rfl) (by kernel_rfl) (by kernel_rfl) (fun _ _ _ h => h) (Or.inl ⟨by rfl, ?hy2016⟩) hHeld ?_
          case hy2016 => (intro w hSw; (try dsimp only at hSw); go_simp; (try with_reducible rfl))
          (try simp only [Act.put, List.setIfInBounds_toArray, List.set_cons_zero, List.set_cons_succ])
          refine wpAnyH_done (by kernel_rfl) ?_ _
          rotate_left
          exact AllReadyH.nil
          exact AllReadyH.nil
          refine AllReadyH.cons (o := { dst := some 14, op := Op.alloc 62, type := 0, pos := "journal.go:105", after := #[], guard := none }) rfl (fun K hK => ?_) ?_
          go_simp; (first | refine newZ ?_ | refine newZd ?_); intro wa hpa bpa; have HVn := hid hpa; have BV := hid bpa; have BVL := hid hHeld.size; clear hpa bpa
          refine hK.out _ _ (by first | exact hHeld.trans (BV.out.mono hHeld.size) | exact BV.out | exact hHeld.trans (BV.out.out.mono hHeld.size)) (fun hHeld => ?_)
          clear hK K
          (try simp only [List.setIfInBounds_toArray, List.set_cons_zero, List.set_cons_succ])
          refine wpAnyH_ready (rs := [10]) (by kernel_rfl) (by simp) ?_
          refine AllReadyH.cons (o := { dst := some 85, op := Op.call { callee := Callee.value (Operand.func 40), args := #[Operand.tmp 75, Operand.tmp 76, Operand.tmp 80, Operand.tmp 84], argTypes := #[24, 3, 3, 62] }, type := 89, pos := "journal.go:105", after := #[{ on := 0, ground := Ground.data }, { on := 1, ground := Ground.data }, { on := 5, ground := Ground.data }, { on := 9, ground := Ground.data }], guard := none }) rfl (fun K hK => ?_) ?_
          go_simp; refine (JRD _ hHeld).out.mono ?_; rintro e w5 ⟨hr5, b5⟩; rw [NO.out] at hr5; subst hr5; have B5 := hid b5; clear b5
          refine hK.out _ _ (hHeld.trans (B5.out.mono hHeld.size)) (fun hHeld => ?_)
          clear hK K
          (try simp only [List.setIfInBounds_toArray, List.set_cons_zero, List.set_cons_succ])
          refine wpAnyH_take (i := 11) (oi := { dst := some 74, op := Op.move (Operand.tmp 85), type := 89, pos := "journal.go:105", after := #[{ on := 10, ground := Ground.data }], guard := none }) (v := ?v2017) rfl (by kernel_rfl) (by kernel_rfl) (by kernel_rfl) (fun _ _ _ h => h) (Or.inl ⟨by rfl, ?hy2017⟩) hHeld ?_
          case hy2017 => (intro w hSw; (try dsimp only at hSw); go_simp; (try with_reducible rfl))
          (try simp only [Act.put, List.setIfInBounds_toArray, List.set_cons_zero, List.set_cons_succ])
          refine wpAnyH_take (i := 12) (oi := { dst := some 86, op := Op.extract (Operand.tmp 74) 0, type := 22, pos := "journal.go:105", after := #[{ on := 11, ground := Ground.data }], guard := none }) (v := ?v2018) rfl (by kernel_rfl) (by kernel_rfl) (by kernel_rfl) (fun _ _ _ h => h) (Or.inl ⟨by rfl, ?hy2018⟩) hHeld ?_
          case hy2018 => (intro w hSw; (try dsimp only at hSw); go_simp; (try with_reducible rfl))
          (try simp only [Act.put, List.setIfInBounds_toArray, List.set_cons_zero, List.set_cons_succ])
          refine wpAnyH_take (i := 13) (oi := { dst := some 87, op := Op.extract (Operand.tmp 74) 1, type := 62, pos := "journal.go:105", after := #[{ on := 11, ground := Ground.data }, { on := 17, ground := Ground.gcOnly Departure.lateStores }], guard := none }) (v := ?v2019) rfl (by kernel_rfl) (by kernel_rfl) (by kernel_rfl) (fun _ _ _ h => h) (Or.inl ⟨by rfl, ?hy2019⟩) hHeld ?_
          case hy2019 => (intro w hSw; (try dsimp only at hSw); go_simp; (try with_reducible rfl))
          (try simp only [Act.put, List.setIfInBounds_toArray, List.set_cons_zero, List.set_cons_succ])
          refine wpAnyH_take (i := 14) (oi := { dst := some 88, op := Op.extract (Operand.tmp 74) 2, type := 3, pos := "journal.go:105", after := #[{ on := 11, ground := Ground.data }, { on := 18, ground := Ground.gcOnly Departure.lateStores }], guard := none }) (v := ?v2020) rfl (by kernel_rfl) (by kernel_rfl) (by kernel_rfl) (fun _ _ _ h => h) (Or.inl ⟨by rfl, ?hy2020⟩) hHeld ?_
          case hy2020 => (intro w hSw; (try dsimp only at hSw); go_simp; (try with_reducible rfl))
          (try simp only [Act.put, List.setIfInBounds_toArray, List.set_cons_zero, List.set_cons_succ])
          refine wpAnyH_take (i := 15) (oi := { dst := some 89, op := Op.extract (Operand.tmp 74) 3, type := 4, pos := "journal.go:105", after := #[{ on := 11, ground := Ground.data }, { on := 19, ground := Ground.gcOnly Departure.lateStores }], guard := none }) (v := ?v2021) rfl (by kernel_rfl) (by kernel_rfl) (by kernel_rfl) (fun _ _ _ h => h) (Or.inl ⟨by rfl, ?hy2021⟩) hHeld ?_
          case hy2021 => (intro w hSw; (try dsimp only at hSw); go_simp; (try with_reducible rfl))
          (try simp only [Act.put, List.setIfInBounds_toArray, List.set_cons_zero, List.set_cons_succ])
          refine wpAnyH_take (i := 17) (oi := { dst := some 13, op := Op.assign (Operand.tmp 86), type := 22, pos := "journal.go:105", after := #[{ on := 12, ground := Ground.data }, { on := 10, ground := Ground.chain }, { on := 0, ground := Ground.phase }, { on := 1, ground := Ground.phase }, { on := 2, ground := Ground.phase }, { on := 3, ground := Ground.phase }, { on := 4, ground := Ground.phase }, { on := 5, ground := Ground.phase }, { on := 6, ground := Ground.phase }, { on := 7, ground := Ground.phase }, { on := 8, ground := Ground.phase }, { on := 9, ground := Ground.phase }, { on := 10, ground := Ground.phase }, { on := 11, ground := Ground.phase }, { on := 12, ground := Ground.phase }, { on := 13, ground := Ground.textOnly Departure.lateStores }, { on := 14, ground := Ground.textOnly Departure.lateStores }, { on := 15, ground := Ground.textOnly Departure.lateStores }, { on := 16, ground := Ground.phase }], guard := none }) (v := ?v2022) rfl (by kernel_rfl) (by kernel_rfl) (by kernel_rfl) (fun _ _ _ h => h) (Or.inl ⟨by rfl, ?hy2022⟩) hHeld ?_
          case hy2022 => (intro w hSw; (try dsimp only at hSw); go_simp; (try with_reducible rfl))
          (try simp only [Act.put, List.setIfInBounds_toArray, List.set_cons_zero, List.set_cons_succ])
          refine wpAnyH_ready (rs := [18]) (by kernel_rfl) (by simp) ?_
          refine AllReadyH.cons (o := { dst := none, op := Op.store 62 (Operand.tmp 14) (Operand.tmp 87), type := 0, pos := "journal.go:105", after := #[{ on := 16, ground := Ground.data }, { on := 13, ground := Ground.data }, { on := 17, ground := Ground.chain }, { on := 0, ground := Ground.phase }, { on := 1, ground := Ground.phase }, { on := 2, ground := Ground.phase }, { on := 3, ground := Ground.phase }, { on := 4, ground := Ground.phase }, { on := 5, ground := Ground.phase }, { on := 6, ground := Ground.phase }, { on := 7, ground := Ground.phase }, { on := 8, ground := Ground.phase }, { on := 9, ground := Ground.phase }, { on := 10, ground := Ground.phase }, { on := 11, ground := Ground.phase }, { on := 12, ground := Ground.phase }, { on := 13, ground := Ground.phase }, { on := 14, ground := Ground.textOnly Departure.lateStores }, { on := 15, ground := Ground.textOnly Departure.lateStores }, { on := 16, ground := Ground.phase }, { on := 17, ground := Ground.phase }], guard := none }) rfl (fun K hK => ?_) ?_
          rw [if_pos (by rfl)]; refine wp_store_row _ _ _ rfl _ (nums .u8 z32).toArray rfl rfl _ _ (by first | exact HVn.out.out | exact heap_keep HVn.out.out B5.out | exact HVn.out | exact heap_keep HVn.out B5.out) hiZ.out rfl hz1.out ?_
          refine hK.out _ _ (below_setRow hHeld BVL.out _) (fun hHeld => ?_)
          clear hK K
          (try simp only [List.setIfInBounds_toArray, List.set_cons_zero, List.set_cons_succ])
          refine wpAnyH_take (i := 19) (oi := { dst := some 15, op := Op.assign (Operand.tmp 88), type := 3, pos := "journal.go:105", after := #[{ on := 14, ground := Ground.data }, { on := 18, ground := Ground.chain }, { on := 0, ground := Ground.phase }, { on := 1, ground := Ground.phase }, { on := 2, ground := Ground.phase }, { on := 3, ground := Ground.phase }, { on := 4, ground := Ground.phase }, { on := 5, ground := Ground.phase }, { on := 6, ground := Ground.phase }, { on := 7, ground := Ground.phase }, { on := 8, ground := Ground.phase }, { on := 9, ground := Ground.phase }, { on := 10, ground := Ground.phase }, { on := 11, ground := Ground.phase }, { on := 12, ground := Ground.phase }, { on := 13, ground := Ground.phase }, { on := 14, ground := Ground.phase }, { on := 15, ground := Ground.textOnly Departure.lateStores }, { on := 16, ground := Ground.phase }, { on := 17, ground := Ground.phase }, { on := 18, ground := Ground.phase }], guard := none }) (v := ?v2023) rfl (by kernel_rfl) (by kernel_rfl) (by kernel_rfl) (fun _ _ _ h => h) (Or.inl ⟨by rfl, ?hy2023⟩) hHeld ?_
          case hy2023 => (intro w hSw; (try dsimp only at hSw); go_simp; (try with_reducible rfl))
          (try simp only [Act.put, List.setIfInBounds_toArray, List.set_cons_zero, List.set_cons_succ])
          refine wpAnyH_take (i := 20) (oi := { dst := some 16, op := Op.assign (Operand.tmp 89), type := 4, pos := "journal.go:105", after := #[{ on := 15, ground := Ground.data }, { on := 19, ground := Ground.chain }, { on := 0, ground := Ground.phase }, { on := 1, ground := Ground.phase }, { on := 2, ground := Ground.phase }, { on := 3, ground := Ground.phase }, { on := 4, ground := Ground.phase }, { on := 5, ground := Ground.phase }, { on := 6, ground := Ground.phase }, { on := 7, ground := Ground.phase }, { on := 8, ground := Ground.phase }, { on := 9, ground := Ground.phase }, { on := 10, ground := Ground.phase }, { on := 11, ground := Ground.phase }, { on := 12, ground := Ground.phase }, { on := 13, ground := Ground.phase }, { on := 14, ground := Ground.phase }, { on := 15, ground := Ground.phase }, { on := 16, ground := Ground.phase }, { on := 17, ground := Ground.phase }, { on := 18, ground := Ground.phase }, { on := 19, ground := Ground.phase }], guard := none }) (v := ?v2024) rfl (by kernel_rfl) (by kernel_rfl) (by kernel_rfl) (fun _ _ _ h => h) (Or.inl ⟨by rfl, ?hy2024⟩) hHeld ?_
          case hy2024 => (intro w hSw; (try dsimp only at hSw); go_simp; (try with_reducible rfl))
          (try simp only [Act.put, List.setIfInBounds_toArray, List.set_cons_zero, List.set_cons_succ])
          refine wpAnyH_done (by kernel_rfl) ?_ _
          rotate_left
          exact AllReadyH.nil
          exact AllReadyH.nil
          exact AllReadyH.nil
          all_goals
            have BE := hid hHeld
            clear hHeld
            go_wp2_with (fail)
            go_ret2
            refine ⟨w.heap.size, rv, rfl, ?_, BX.out.trans (BE.out.mono BX.out.size)⟩
            have hd := RSE.out
            rw [List.append_nil] at hd
            rw [hd]
            exact JourAt.below ⟨⟨svx, JX.out, YX.out⟩, C8.out, ⟨vs, OX.out, RX.out⟩, Nat.le_refl _⟩ BE.out
        | cons r rest =>
          obtain ⟨h5, t5, hyes, chn⟩ := chx
          have YES := hid hyes
          have CHN := hid chn
          have R5 := hid (readC_out hyes)
          have l5 := hid (readC_len hyes)
          clear hyes chn
          have hiZ := hid (show (Tryz.prog.info? 62).map (·.size) = some (nums .u8 h5).toArray.size by rw [List.size_toArray, nums_length, l5.out]; kernel_rfl)
          have hz1 := hid (all_oneCell_toArray (nums_oneCell .u8 h5))
          have hoZ := hid (show (nums .u8 z32).toArray.size = (nums .u8 h5).toArray.size by rw [List.size_toArray, List.size_toArray, nums_length, nums_length, l5.out]; rfl)
          have hiZl := hid (show (Tryz.prog.info? 62).map (·.size) = some (nums .u8 h5).length by rw [nums_length, l5.out]; kernel_rfl)
          have hz0 := hid (show (nums .u8 h5).toArray.size = 32 by rw [List.size_toArray, nums_length, l5.out])
          refine wp_region_held_drew (S := fun w' => Below wr.heap.size wr w') (by kernel_rfl) ((Below.refl _ _).drew) (fun hHeld => ?_)
          try simp only [List.size_toArray, List.length_cons, List.length_nil, Nat.reduceAdd, Array.replicate_succ, Array.replicate_zero, List.push_toArray, List.nil_append, List.cons_append]
          refine wpAnyH_take (i := 0) (oi := { dst := some 75, op := Op.move (Operand.tmp 0), type := 24, pos := "journal.go:105", after := #[], guard := none }) (v := ?v3001) rfl (by kernel_rfl) (by kernel_rfl) (by kernel_rfl) (fun _ _ _ h => h) (Or.inl ⟨by rfl, ?hy3001⟩) hHeld ?_
          case hy3001 => (intro w hSw; (try dsimp only at hSw); go_simp; (try with_reducible rfl))
          (try simp only [Act.put, List.setIfInBounds_toArray, List.set_cons_zero, List.set_cons_succ])
          refine wpAnyH_take (i := 1) (oi := { dst := some 76, op := Op.move (Operand.tmp 1), type := 3, pos := "journal.go:105", after := #[], guard := none }) (v := ?v3002) rfl (by kernel_rfl) (by kernel_rfl) (by kernel_rfl) (fun _ _ _ h => h) (Or.inl ⟨by rfl, ?hy3002⟩) hHeld ?_
          case hy3002 => (intro w hSw; (try dsimp only at hSw); go_simp; (try with_reducible rfl))
          (try simp only [Act.put, List.setIfInBounds_toArray, List.set_cons_zero, List.set_cons_succ])
          refine wpAnyH_take (i := 2) (oi := { dst := some 77, op := Op.move (Operand.tmp 6), type := 26, pos := "journal.go:105", after := #[], guard := none }) (v := ?v3003) rfl (by kernel_rfl) (by kernel_rfl) (by kernel_rfl) (fun _ _ _ h => h) (Or.inl ⟨by rfl, ?hy3003⟩) hHeld ?_
          case hy3003 => (intro w hSw; (try dsimp only at hSw); go_simp; (try with_reducible rfl))
          (try simp only [Act.put, List.setIfInBounds_toArray, List.set_cons_zero, List.set_cons_succ])
          refine wpAnyH_take (i := 3) (oi := { dst := some 78, op := Op.nilCheck (Operand.tmp 77), type := 0, pos := "journal.go:105", after := #[{ on := 2, ground := Ground.data }], guard := none }) (v := ?v3004) rfl (by kernel_rfl) (by kernel_rfl) (by kernel_rfl) (fun _ _ _ h => h) (Or.inl ⟨by rfl, ?hy3004⟩) hHeld ?_
          case hy3004 => (intro w hSw; (try dsimp only at hSw); go_simp; (try with_reducible rfl))
          (try simp only [Act.put, List.setIfInBounds_toArray, List.set_cons_zero, List.set_cons_succ])
          refine wpAnyH_take (i := 4) (oi := { dst := some 79, op := Op.fieldAddr 64 (Operand.tmp 78) 2, type := 0, pos := "journal.go:105", after := #[{ on := 3, ground := Ground.data }], guard := none }) (v := ?v3005) rfl (by kernel_rfl) (by kernel_rfl) (by kernel_rfl) (fun _ _ _ h => h) (Or.inl ⟨by rfl, ?hy3005⟩) hHeld ?_
          case hy3005 => (intro w hSw; (try dsimp only at hSw); go_simp; (try with_reducible rfl))
          (try simp only [Act.put, List.setIfInBounds_toArray, List.set_cons_zero, List.set_cons_succ])
          refine wpAnyH_take (i := 5) (oi := { dst := some 80, op := Op.load 3 (Operand.tmp 79), type := 3, pos := "journal.go:105", after := #[{ on := 4, ground := Ground.data }], guard := none }) (v := (.int .i64 (nx : Int))) rfl (by kernel_rfl) (by kernel_rfl) (by kernel_rfl) (fun _ _ _ h => h) (Or.inl ⟨by rfl, fun w h => by have c9 := cell_keep h c2.out; go_simp⟩) hHeld ?_
          (try simp only [Act.put, List.setIfInBounds_toArray, List.set_cons_zero, List.set_cons_succ])
          refine wpAnyH_take (i := 6) (oi := { dst := some 81, op := Op.move (Operand.tmp 6), type := 26, pos := "journal.go:105", after := #[], guard := none }) (v := ?v3006) rfl (by kernel_rfl) (by kernel_rfl) (by kernel_rfl) (fun _ _ _ h => h) (Or.inl ⟨by rfl, ?hy3006⟩) hHeld ?_
          case hy3006 => (intro w hSw; (try dsimp only at hSw); go_simp; (try with_reducible rfl))
          (try simp only [Act.put, List.setIfInBounds_toArray, List.set_cons_zero, List.set_cons_succ])
          refine wpAnyH_take (i := 7) (oi := { dst := some 82, op := Op.nilCheck (Operand.tmp 81), type := 0, pos := "journal.go:105", after := #[{ on := 6, ground := Ground.data }], guard := none }) (v := ?v3007) rfl (by kernel_rfl) (by kernel_rfl) (by kernel_rfl) (fun _ _ _ h => h) (Or.inl ⟨by rfl, ?hy3007⟩) hHeld ?_
          case hy3007 => (intro w hSw; (try dsimp only at hSw); go_simp; (try with_reducible rfl))
          (try simp only [Act.put, List.setIfInBounds_toArray, List.set_cons_zero, List.set_cons_succ])
          refine wpAnyH_take (i := 8) (oi := { dst := some 83, op := Op.fieldAddr 64 (Operand.tmp 82) 4, type := 0, pos := "journal.go:105", after := #[{ on := 7, ground := Ground.data }], guard := none }) (v := ?v3008) rfl (by kernel_rfl) (by kernel_rfl) (by kernel_rfl) (fun _ _ _ h => h) (Or.inl ⟨by rfl, ?hy3008⟩) hHeld ?_
          case hy3008 => (intro w hSw; (try dsimp only at hSw); go_simp; (try with_reducible rfl))
          (try simp only [Act.put, List.setIfInBounds_toArray, List.set_cons_zero, List.set_cons_succ])
          refine' wpAnyH_take (i := 9) (oi := { dst := some 84, op := Op.load 62 (Operand.tmp 83), type := 62, pos := "journal.go:105", after := #[{ on := 8, ground := Ground.data }], guard := none }) (v := _) rfl (by kernel_rfl) (by kernel_rfl) (by kernel_rfl) (fun _ _ _ h => h) (yieldsIf_load_mid (by rfl) _ _ rfl w.heap.size 4 rfl (nums .u8 cx) _ (fun _ h => range_keep h rgx.out) Tryz.underlying62 rfl hix.out) hHeld ?_
          (try simp only [Act.put, List.setIfInBounds_toArray, List.set_cons_zero, List.set_cons_succ])
          refine wpAnyH_ready (rs := [10, 16]) (by kernel_rfl) (by simp) ?_
          refine AllReadyH.cons (o := { dst := some 85, op := Op.call { callee := Callee.value (Operand.func 40), args := #[Operand.tmp 75, Operand.tmp 76, Operand.tmp 80, Operand.tmp 84], argTypes := #[24, 3, 3, 62] }, type := 89, pos := "journal.go:105", after := #[{ on := 0, ground := Ground.data }, { on := 1, ground := Ground.data }, { on := 5, ground := Ground.data }, { on := 9, ground := Ground.data }], guard := none }) rfl (fun K hK => ?_) ?_
          go_simp; refine (JRD _ hHeld).out.mono ?_; rintro e w5 ⟨hr5, b5⟩; rw [YES.out] at hr5; obtain ⟨v5, rfl, y5, _⟩ := hr5; have B5 := hid b5; have Y5 := hid y5; obtain ⟨a5, n5, c5, rfl, _⟩ := y5; clear b5
          refine hK.out _ _ (hHeld.trans (B5.out.mono hHeld.size)) (fun hHeld => ?_)
          clear hK K
          (try simp only [List.setIfInBounds_toArray, List.set_cons_zero, List.set_cons_succ])
          refine wpAnyH_take (i := 11) (oi := { dst := some 74, op := Op.move (Operand.tmp 85), type := 89, pos := "journal.go:105", after := #[{ on := 10, ground := Ground.data }], guard := none }) (v := ?v3009) rfl (by kernel_rfl) (by kernel_rfl) (by kernel_rfl) (fun _ _ _ h => h) (Or.inl ⟨by rfl, ?hy3009⟩) hHeld ?_
          case hy3009 => (intro w hSw; (try dsimp only at hSw); go_simp; (try with_reducible rfl))
          (try simp only [Act.put, List.setIfInBounds_toArray, List.set_cons_zero, List.set_cons_succ])
          refine wpAnyH_take (i := 12) (oi := { dst := some 86, op := Op.extract (Operand.tmp 74) 0, type := 22, pos := "journal.go:105", after := #[{ on := 11, ground := Ground.data }], guard := none }) (v := ?v3010) rfl (by kernel_rfl) (by kernel_rfl) (by kernel_rfl) (fun _ _ _ h => h) (Or.inl ⟨by rfl, ?hy3010⟩) hHeld ?_
          case hy3010 => (intro w hSw; (try dsimp only at hSw); go_simp; (try with_reducible rfl))
          (try simp only [Act.put, List.setIfInBounds_toArray, List.set_cons_zero, List.set_cons_succ])
          refine wpAnyH_take (i := 13) (oi := { dst := some 87, op := Op.extract (Operand.tmp 74) 1, type := 62, pos := "journal.go:105", after := #[{ on := 11, ground := Ground.data }, { on := 17, ground := Ground.gcOnly Departure.lateStores }], guard := none }) (v := ?v3011) rfl (by kernel_rfl) (by kernel_rfl) (by kernel_rfl) (fun _ _ _ h => h) (Or.inl ⟨by rfl, ?hy3011⟩) hHeld ?_
          case hy3011 => (intro w hSw; (try dsimp only at hSw); go_simp; (try with_reducible rfl))
          (try simp only [Act.put, List.setIfInBounds_toArray, List.set_cons_zero, List.set_cons_succ])
          refine wpAnyH_take (i := 14) (oi := { dst := some 88, op := Op.extract (Operand.tmp 74) 2, type := 3, pos := "journal.go:105", after := #[{ on := 11, ground := Ground.data }, { on := 18, ground := Ground.gcOnly Departure.lateStores }], guard := none }) (v := ?v3012) rfl (by kernel_rfl) (by kernel_rfl) (by kernel_rfl) (fun _ _ _ h => h) (Or.inl ⟨by rfl, ?hy3012⟩) hHeld ?_
          case hy3012 => (intro w hSw; (try dsimp only at hSw); go_simp; (try with_reducible rfl))
          (try simp only [Act.put, List.setIfInBounds_toArray, List.set_cons_zero, List.set_cons_succ])
          refine wpAnyH_take (i := 15) (oi := { dst := some 89, op := Op.extract (Operand.tmp 74) 3, type := 4, pos := "journal.go:105", after := #[{ on := 11, ground := Ground.data }, { on := 19, ground := Ground.gcOnly Departure.lateStores }], guard := none }) (v := ?v3013) rfl (by kernel_rfl) (by kernel_rfl) (by kernel_rfl) (fun _ _ _ h => h) (Or.inl ⟨by rfl, ?hy3013⟩) hHeld ?_
          case hy3013 => (intro w hSw; (try dsimp only at hSw); go_simp; (try with_reducible rfl))
          (try simp only [Act.put, List.setIfInBounds_toArray, List.set_cons_zero, List.set_cons_succ])
          refine wpAnyH_ready (rs := [16]) (by kernel_rfl) (by simp) ?_
          refine AllReadyH.cons (o := { dst := some 14, op := Op.alloc 62, type := 0, pos := "journal.go:105", after := #[], guard := none }) rfl (fun K hK => ?_) ?_
          have BVL := hid hHeld.size; go_simp; (first | refine newZ ?_ | refine newZd ?_); intro wa HVn BV
          refine hK.out _ _ (by first | exact hHeld.trans (BV.out.mono hHeld.size) | exact BV.out) (fun hHeld => ?_)
          clear hK K
          (try simp only [List.setIfInBounds_toArray, List.set_cons_zero, List.set_cons_succ])
          refine wpAnyH_take (i := 17) (oi := { dst := some 13, op := Op.assign (Operand.tmp 86), type := 22, pos := "journal.go:105", after := #[{ on := 12, ground := Ground.data }, { on := 10, ground := Ground.chain }, { on := 0, ground := Ground.phase }, { on := 1, ground := Ground.phase }, { on := 2, ground := Ground.phase }, { on := 3, ground := Ground.phase }, { on := 4, ground := Ground.phase }, { on := 5, ground := Ground.phase }, { on := 6, ground := Ground.phase }, { on := 7, ground := Ground.phase }, { on := 8, ground := Ground.phase }, { on := 9, ground := Ground.phase }, { on := 10, ground := Ground.phase }, { on := 11, ground := Ground.phase }, { on := 12, ground := Ground.phase }, { on := 13, ground := Ground.textOnly Departure.lateStores }, { on := 14, ground := Ground.textOnly Departure.lateStores }, { on := 15, ground := Ground.textOnly Departure.lateStores }, { on := 16, ground := Ground.phase }], guard := none }) (v := ?v3014) rfl (by kernel_rfl) (by kernel_rfl) (by kernel_rfl) (fun _ _ _ h => h) (Or.inl ⟨by rfl, ?hy3014⟩) hHeld ?_
          case hy3014 => (intro w hSw; (try dsimp only at hSw); go_simp; (try with_reducible rfl))
          (try simp only [Act.put, List.setIfInBounds_toArray, List.set_cons_zero, List.set_cons_succ])
          refine wpAnyH_ready (rs := [18]) (by kernel_rfl) (by simp) ?_
          refine AllReadyH.cons (o := { dst := none, op := Op.store 62 (Operand.tmp 14) (Operand.tmp 87), type := 0, pos := "journal.go:105", after := #[{ on := 16, ground := Ground.data }, { on := 13, ground := Ground.data }, { on := 17, ground := Ground.chain }, { on := 0, ground := Ground.phase }, { on := 1, ground := Ground.phase }, { on := 2, ground := Ground.phase }, { on := 3, ground := Ground.phase }, { on := 4, ground := Ground.phase }, { on := 5, ground := Ground.phase }, { on := 6, ground := Ground.phase }, { on := 7, ground := Ground.phase }, { on := 8, ground := Ground.phase }, { on := 9, ground := Ground.phase }, { on := 10, ground := Ground.phase }, { on := 11, ground := Ground.phase }, { on := 12, ground := Ground.phase }, { on := 13, ground := Ground.phase }, { on := 14, ground := Ground.textOnly Departure.lateStores }, { on := 15, ground := Ground.textOnly Departure.lateStores }, { on := 16, ground := Ground.phase }, { on := 17, ground := Ground.phase }], guard := none }) rfl (fun K hK => ?_) ?_
          rw [if_pos (by rfl)]; refine wp_store_row _ _ _ rfl _ (nums .u8 h5).toArray rfl rfl _ _ (by first | exact HVn.out | exact heap_keep HVn.out B5.out) hiZ.out hoZ.out hz1.out ?_; refine setRowW (w0 := wr) (by first | exact HVn.out | exact heap_keep HVn.out B5.out) hHeld BVL.out (by first | exact Y5.out | exact Y5.out.below BV.out) ?_; intro wz HC BE YZ
          refine hK.out _ _ (BE.out) (fun hHeld => ?_)
          clear hK K
          (try simp only [List.setIfInBounds_toArray, List.set_cons_zero, List.set_cons_succ])
          refine wpAnyH_take (i := 19) (oi := { dst := some 15, op := Op.assign (Operand.tmp 88), type := 3, pos := "journal.go:105", after := #[{ on := 14, ground := Ground.data }, { on := 18, ground := Ground.chain }, { on := 0, ground := Ground.phase }, { on := 1, ground := Ground.phase }, { on := 2, ground := Ground.phase }, { on := 3, ground := Ground.phase }, { on := 4, ground := Ground.phase }, { on := 5, ground := Ground.phase }, { on := 6, ground := Ground.phase }, { on := 7, ground := Ground.phase }, { on := 8, ground := Ground.phase }, { on := 9, ground := Ground.phase }, { on := 10, ground := Ground.phase }, { on := 11, ground := Ground.phase }, { on := 12, ground := Ground.phase }, { on := 13, ground := Ground.phase }, { on := 14, ground := Ground.phase }, { on := 15, ground := Ground.textOnly Departure.lateStores }, { on := 16, ground := Ground.phase }, { on := 17, ground := Ground.phase }, { on := 18, ground := Ground.phase }], guard := none }) (v := ?v3015) rfl (by kernel_rfl) (by kernel_rfl) (by kernel_rfl) (fun _ _ _ h => h) (Or.inl ⟨by rfl, ?hy3015⟩) hHeld ?_
          case hy3015 => (intro w hSw; (try dsimp only at hSw); go_simp; (try with_reducible rfl))
          (try simp only [Act.put, List.setIfInBounds_toArray, List.set_cons_zero, List.set_cons_succ])
          refine wpAnyH_take (i := 20) (oi := { dst := some 16, op := Op.assign (Operand.tmp 89), type := 4, pos := "journal.go:105", after := #[{ on := 15, ground := Ground.data }, { on := 19, ground := Ground.chain }, { on := 0, ground := Ground.phase }, { on := 1, ground := Ground.phase }, { on := 2, ground := Ground.phase }, { on := 3, ground := Ground.phase }, { on := 4, ground := Ground.phase }, { on := 5, ground := Ground.phase }, { on := 6, ground := Ground.phase }, { on := 7, ground := Ground.phase }, { on := 8, ground := Ground.phase }, { on := 9, ground := Ground.phase }, { on := 10, ground := Ground.phase }, { on := 11, ground := Ground.phase }, { on := 12, ground := Ground.phase }, { on := 13, ground := Ground.phase }, { on := 14, ground := Ground.phase }, { on := 15, ground := Ground.phase }, { on := 16, ground := Ground.phase }, { on := 17, ground := Ground.phase }, { on := 18, ground := Ground.phase }, { on := 19, ground := Ground.phase }], guard := none }) (v := ?v3016) rfl (by kernel_rfl) (by kernel_rfl) (by kernel_rfl) (fun _ _ _ h => h) (Or.inl ⟨by rfl, ?hy3016⟩) hHeld ?_
          case hy3016 => (intro w hSw; (try dsimp only at hSw); go_simp; (try with_reducible rfl))
          (try simp only [Act.put, List.setIfInBounds_toArray, List.set_cons_zero, List.set_cons_succ])
          refine wpAnyH_done (by kernel_rfl) ?_ _
          rotate_left
          exact AllReadyH.nil
          exact AllReadyH.nil
          refine AllReadyH.cons (o := { dst := some 14, op := Op.alloc 62, type := 0, pos := "journal.go:105", after := #[], guard := none }) rfl (fun K hK => ?_) ?_
          have BVL := hid hHeld.size; go_simp; (first | refine newZ ?_ | refine newZd ?_); intro wa HVn BV
          refine hK.out _ _ (by first | exact hHeld.trans (BV.out.mono hHeld.size) | exact BV.out) (fun hHeld => ?_)
          clear hK K
          (try simp only [List.setIfInBounds_toArray, List.set_cons_zero, List.set_cons_succ])
          refine wpAnyH_ready (rs := [10]) (by kernel_rfl) (by simp) ?_
          refine AllReadyH.cons (o := { dst := some 85, op := Op.call { callee := Callee.value (Operand.func 40), args := #[Operand.tmp 75, Operand.tmp 76, Operand.tmp 80, Operand.tmp 84], argTypes := #[24, 3, 3, 62] }, type := 89, pos := "journal.go:105", after := #[{ on := 0, ground := Ground.data }, { on := 1, ground := Ground.data }, { on := 5, ground := Ground.data }, { on := 9, ground := Ground.data }], guard := none }) rfl (fun K hK => ?_) ?_
          go_simp; refine (JRD _ hHeld).out.mono ?_; rintro e w5 ⟨hr5, b5⟩; rw [YES.out] at hr5; obtain ⟨v5, rfl, y5, _⟩ := hr5; have B5 := hid b5; have Y5 := hid y5; obtain ⟨a5, n5, c5, rfl, _⟩ := y5; clear b5
          refine hK.out _ _ (hHeld.trans (B5.out.mono hHeld.size)) (fun hHeld => ?_)
          clear hK K
          (try simp only [List.setIfInBounds_toArray, List.set_cons_zero, List.set_cons_succ])
          refine wpAnyH_take (i := 11) (oi := { dst := some 74, op := Op.move (Operand.tmp 85), type := 89, pos := "journal.go:105", after := #[{ on := 10, ground := Ground.data }], guard := none }) (v := ?v3017) rfl (by kernel_rfl) (by kernel_rfl) (by kernel_rfl) (fun _ _ _ h => h) (Or.inl ⟨by rfl, ?hy3017⟩) hHeld ?_
          case hy3017 => (intro w hSw; (try dsimp only at hSw); go_simp; (try with_reducible rfl))
          (try simp only [Act.put, List.setIfInBounds_toArray, List.set_cons_zero, List.set_cons_succ])
          refine wpAnyH_take (i := 12) (oi := { dst := some 86, op := Op.extract (Operand.tmp 74) 0, type := 22, pos := "journal.go:105", after := #[{ on := 11, ground := Ground.data }], guard := none }) (v := ?v3018) rfl (by kernel_rfl) (by kernel_rfl) (by kernel_rfl) (fun _ _ _ h => h) (Or.inl ⟨by rfl, ?hy3018⟩) hHeld ?_
          case hy3018 => (intro w hSw; (try dsimp only at hSw); go_simp; (try with_reducible rfl))
          (try simp only [Act.put, List.setIfInBounds_toArray, List.set_cons_zero, List.set_cons_succ])
          refine wpAnyH_take (i := 13) (oi := { dst := some 87, op := Op.extract (Operand.tmp 74) 1, type := 62, pos := "journal.go:105", after := #[{ on := 11, ground := Ground.data }, { on := 17, ground := Ground.gcOnly Departure.lateStores }], guard := none }) (v := ?v3019) rfl (by kernel_rfl) (by kernel_rfl) (by kernel_rfl) (fun _ _ _ h => h) (Or.inl ⟨by rfl, ?hy3019⟩) hHeld ?_
          case hy3019 => (intro w hSw; (try dsimp only at hSw); go_simp; (try with_reducible rfl))
          (try simp only [Act.put, List.setIfInBounds_toArray, List.set_cons_zero, List.set_cons_succ])
          refine wpAnyH_take (i := 14) (oi := { dst := some 88, op := Op.extract (Operand.tmp 74) 2, type := 3, pos := "journal.go:105", after := #[{ on := 11, ground := Ground.data }, { on := 18, ground := Ground.gcOnly Departure.lateStores }], guard := none }) (v := ?v3020) rfl (by kernel_rfl) (by kernel_rfl) (by kernel_rfl) (fun _ _ _ h => h) (Or.inl ⟨by rfl, ?hy3020⟩) hHeld ?_
          case hy3020 => (intro w hSw; (try dsimp only at hSw); go_simp; (try with_reducible rfl))
          (try simp only [Act.put, List.setIfInBounds_toArray, List.set_cons_zero, List.set_cons_succ])
          refine wpAnyH_take (i := 15) (oi := { dst := some 89, op := Op.extract (Operand.tmp 74) 3, type := 4, pos := "journal.go:105", after := #[{ on := 11, ground := Ground.data }, { on := 19, ground := Ground.gcOnly Departure.lateStores }], guard := none }) (v := ?v3021) rfl (by kernel_rfl) (by kernel_rfl) (by kernel_rfl) (fun _ _ _ h => h) (Or.inl ⟨by rfl, ?hy3021⟩) hHeld ?_
          case hy3021 => (intro w hSw; (try dsimp only at hSw); go_simp; (try with_reducible rfl))
          (try simp only [Act.put, List.setIfInBounds_toArray, List.set_cons_zero, List.set_cons_succ])
          refine wpAnyH_take (i := 17) (oi := { dst := some 13, op := Op.assign (Operand.tmp 86), type := 22, pos := "journal.go:105", after := #[{ on := 12, ground := Ground.data }, { on := 10, ground := Ground.chain }, { on := 0, ground := Ground.phase }, { on := 1, ground := Ground.phase }, { on := 2, ground := Ground.phase }, { on := 3, ground := Ground.phase }, { on := 4, ground := Ground.phase }, { on := 5, ground := Ground.phase }, { on := 6, ground := Ground.phase }, { on := 7, ground := Ground.phase }, { on := 8, ground := Ground.phase }, { on := 9, ground := Ground.phase }, { on := 10, ground := Ground.phase }, { on := 11, ground := Ground.phase }, { on := 12, ground := Ground.phase }, { on := 13, ground := Ground.textOnly Departure.lateStores }, { on := 14, ground := Ground.textOnly Departure.lateStores }, { on := 15, ground := Ground.textOnly Departure.lateStores }, { on := 16, ground := Ground.phase }], guard := none }) (v := ?v3022) rfl (by kernel_rfl) (by kernel_rfl) (by kernel_rfl) (fun _ _ _ h => h) (Or.inl ⟨by rfl, ?hy3022⟩) hHeld ?_
          case hy3022 => (intro w hSw; (try dsimp only at hSw); go_simp; (try with_reducible rfl))
          (try simp only [Act.put, List.setIfInBounds_toArray, List.set_cons_zero, List.set_cons_succ])
          refine wpAnyH_ready (rs := [18]) (by kernel_rfl) (by simp) ?_
          refine AllReadyH.cons (o := { dst := none, op := Op.store 62 (Operand.tmp 14) (Operand.tmp 87), type := 0, pos := "journal.go:105", after := #[{ on := 16, ground := Ground.data }, { on := 13, ground := Ground.data }, { on := 17, ground := Ground.chain }, { on := 0, ground := Ground.phase }, { on := 1, ground := Ground.phase }, { on := 2, ground := Ground.phase }, { on := 3, ground := Ground.phase }, { on := 4, ground := Ground.phase }, { on := 5, ground := Ground.phase }, { on := 6, ground := Ground.phase }, { on := 7, ground := Ground.phase }, { on := 8, ground := Ground.phase }, { on := 9, ground := Ground.phase }, { on := 10, ground := Ground.phase }, { on := 11, ground := Ground.phase }, { on := 12, ground := Ground.phase }, { on := 13, ground := Ground.phase }, { on := 14, ground := Ground.textOnly Departure.lateStores }, { on := 15, ground := Ground.textOnly Departure.lateStores }, { on := 16, ground := Ground.phase }, { on := 17, ground := Ground.phase }], guard := none }) rfl (fun K hK => ?_) ?_
          rw [if_pos (by rfl)]; refine wp_store_row _ _ _ rfl _ (nums .u8 h5).toArray rfl rfl _ _ (by first | exact HVn.out | exact heap_keep HVn.out B5.out) hiZ.out hoZ.out hz1.out ?_; refine setRowW (w0 := wr) (by first | exact HVn.out | exact heap_keep HVn.out B5.out) hHeld BVL.out (by first | exact Y5.out | exact Y5.out.below BV.out) ?_; intro wz HC BE YZ
          refine hK.out _ _ (BE.out) (fun hHeld => ?_)
          clear hK K
          (try simp only [List.setIfInBounds_toArray, List.set_cons_zero, List.set_cons_succ])
          refine wpAnyH_take (i := 19) (oi := { dst := some 15, op := Op.assign (Operand.tmp 88), type := 3, pos := "journal.go:105", after := #[{ on := 14, ground := Ground.data }, { on := 18, ground := Ground.chain }, { on := 0, ground := Ground.phase }, { on := 1, ground := Ground.phase }, { on := 2, ground := Ground.phase }, { on := 3, ground := Ground.phase }, { on := 4, ground := Ground.phase }, { on := 5, ground := Ground.phase }, { on := 6, ground := Ground.phase }, { on := 7, ground := Ground.phase }, { on := 8, ground := Ground.phase }, { on := 9, ground := Ground.phase }, { on := 10, ground := Ground.phase }, { on := 11, ground := Ground.phase }, { on := 12, ground := Ground.phase }, { on := 13, ground := Ground.phase }, { on := 14, ground := Ground.phase }, { on := 15, ground := Ground.textOnly Departure.lateStores }, { on := 16, ground := Ground.phase }, { on := 17, ground := Ground.phase }, { on := 18, ground := Ground.phase }], guard := none }) (v := ?v3023) rfl (by kernel_rfl) (by kernel_rfl) (by kernel_rfl) (fun _ _ _ h => h) (Or.inl ⟨by rfl, ?hy3023⟩) hHeld ?_
          case hy3023 => (intro w hSw; (try dsimp only at hSw); go_simp; (try with_reducible rfl))
          (try simp only [Act.put, List.setIfInBounds_toArray, List.set_cons_zero, List.set_cons_succ])
          refine wpAnyH_take (i := 20) (oi := { dst := some 16, op := Op.assign (Operand.tmp 89), type := 4, pos := "journal.go:105", after := #[{ on := 15, ground := Ground.data }, { on := 19, ground := Ground.chain }, { on := 0, ground := Ground.phase }, { on := 1, ground := Ground.phase }, { on := 2, ground := Ground.phase }, { on := 3, ground := Ground.phase }, { on := 4, ground := Ground.phase }, { on := 5, ground := Ground.phase }, { on := 6, ground := Ground.phase }, { on := 7, ground := Ground.phase }, { on := 8, ground := Ground.phase }, { on := 9, ground := Ground.phase }, { on := 10, ground := Ground.phase }, { on := 11, ground := Ground.phase }, { on := 12, ground := Ground.phase }, { on := 13, ground := Ground.phase }, { on := 14, ground := Ground.phase }, { on := 15, ground := Ground.phase }, { on := 16, ground := Ground.phase }, { on := 17, ground := Ground.phase }, { on := 18, ground := Ground.phase }, { on := 19, ground := Ground.phase }], guard := none }) (v := ?v3024) rfl (by kernel_rfl) (by kernel_rfl) (by kernel_rfl) (fun _ _ _ h => h) (Or.inl ⟨by rfl, ?hy3024⟩) hHeld ?_
          case hy3024 => (intro w hSw; (try dsimp only at hSw); go_simp; (try with_reducible rfl))
          (try simp only [Act.put, List.setIfInBounds_toArray, List.set_cons_zero, List.set_cons_succ])
          refine wpAnyH_done (by kernel_rfl) ?_ _
          rotate_left
          exact AllReadyH.nil
          exact AllReadyH.nil
          exact AllReadyH.nil
          · generalize w5.heap.size = V at HC BVL ⊢
            have JZ := hid (JX.out.below BE.out)
            have OZ := hid (Below.ownK OX.out BE.out)
            have WL := hid (show w.heap.size ≤ wz.heap.size from Nat.le_trans BX.out.size BE.out.size)
            have hneV := hid (show V ≠ w.heap.size by have := JX.out.lt; have := BVL.out; omega)
            have hneR := hid (show ¬ rv.ownBlock = some V from fun e => by have := (OX.out.lt _ e).2; have := BVL.out; omega)
            have few := hid (show done.length < 4096 by have := FEW.out; have := NXL.out; have := DN.out; omega)
            clear hHeld
            go_upto_region 16 with (fail)
            have flw := few.out
            refine wp_region_X (l := 14) (S := fun b w' => w'.rangeAt V 0 (nums .u8 h5) ∧ (b = false → w'.cell? ⟨w.heap.size, 37, none⟩ = some rv)) (by kernel_rfl) (⟨row_range HC.out, fun _ => JZ.out.c37⟩) (fun hHeld => ?_)
            try simp only [List.size_toArray, List.length_cons, List.length_nil, Nat.reduceAdd, Array.replicate_succ, Array.replicate_zero, List.push_toArray, List.nil_append, List.cons_append]
            refine wpAnyX_takeE (i := 0) (oi := { dst := some 93, op := Op.move (Operand.tmp 6), type := 26, pos := "journal.go:109", after := #[], guard := none }) (v := ?v4001) rfl (by kernel_rfl) (by kernel_rfl) (by kernel_rfl) (fun _ _ _ h => h) rfl (by kernel_rfl) (by kernel_rfl) (by kernel_rfl) (Or.inl ⟨by rfl, ?hy4001⟩) hHeld ?_
            case hy4001 => (intro w hSw; (try dsimp only at hSw); go_simp; (try with_reducible rfl))
            (try simp only [Act.put, List.setIfInBounds_toArray, List.set_cons_zero, List.set_cons_succ])
            refine wpAnyX_takeA (i := 1) (oi := { dst := some 94, op := Op.move (Operand.tmp 6), type := 26, pos := "journal.go:109", after := #[{ on := 14, ground := Ground.gcOnly Departure.lateStores }], guard := none }) (v := ?v4002) rfl (by kernel_rfl) (by kernel_rfl) (by kernel_rfl) (fun _ _ _ h => h) rfl (by kernel_rfl) (fun _ h => ⟨h.1, nofun⟩) (b := false) (by kernel_rfl) (Or.inl ⟨by rfl, ?hy4002⟩) hHeld ?_
            case hy4002 => (intro w hSw; (try dsimp only at hSw); go_simp; (try with_reducible rfl))
            (try simp only [Act.put, List.setIfInBounds_toArray, List.set_cons_zero, List.set_cons_succ])
            refine wpAnyX_takeA (i := 2) (oi := { dst := some 95, op := Op.move (Operand.tmp 6), type := 26, pos := "journal.go:109", after := #[{ on := 17, ground := Ground.gcOnly Departure.lateStores }], guard := none }) (v := ?v4003) rfl (by kernel_rfl) (by kernel_rfl) (by kernel_rfl) (fun _ _ _ h => h) rfl (by kernel_rfl) (fun _ h => ⟨h.1, nofun⟩) (b := false) (by kernel_rfl) (Or.inl ⟨by rfl, ?hy4003⟩) hHeld ?_
            case hy4003 => (intro w hSw; (try dsimp only at hSw); go_simp; (try with_reducible rfl))
            (try simp only [Act.put, List.setIfInBounds_toArray, List.set_cons_zero, List.set_cons_succ])
            refine wpAnyX_takeE (i := 3) (oi := { dst := some 96, op := Op.move (Operand.tmp 6), type := 26, pos := "journal.go:109", after := #[], guard := none }) (v := ?v4004) rfl (by kernel_rfl) (by kernel_rfl) (by kernel_rfl) (fun _ _ _ h => h) rfl (by kernel_rfl) (by kernel_rfl) (by kernel_rfl) (Or.inl ⟨by rfl, ?hy4004⟩) hHeld ?_
            case hy4004 => (intro w hSw; (try dsimp only at hSw); go_simp; (try with_reducible rfl))
            (try simp only [Act.put, List.setIfInBounds_toArray, List.set_cons_zero, List.set_cons_succ])
            refine wpAnyX_takeE (i := 4) (oi := { dst := some 97, op := Op.nilCheck (Operand.tmp 96), type := 0, pos := "journal.go:109", after := #[{ on := 3, ground := Ground.data }], guard := none }) (v := ?v4005) rfl (by kernel_rfl) (by kernel_rfl) (by kernel_rfl) (fun _ _ _ h => h) rfl (by kernel_rfl) (by kernel_rfl) (by kernel_rfl) (Or.inl ⟨by rfl, ?hy4005⟩) hHeld ?_
            case hy4005 => (intro w hSw; (try dsimp only at hSw); go_simp; (try with_reducible rfl))
            (try simp only [Act.put, List.setIfInBounds_toArray, List.set_cons_zero, List.set_cons_succ])
            refine wpAnyX_takeE (i := 5) (oi := { dst := some 98, op := Op.fieldAddr 64 (Operand.tmp 97) 6, type := 0, pos := "journal.go:109", after := #[{ on := 4, ground := Ground.data }], guard := none }) (v := ?v4006) rfl (by kernel_rfl) (by kernel_rfl) (by kernel_rfl) (fun _ _ _ h => h) rfl (by kernel_rfl) (by kernel_rfl) (by kernel_rfl) (Or.inl ⟨by rfl, ?hy4006⟩) hHeld ?_
            case hy4006 => (intro w hSw; (try dsimp only at hSw); go_simp; (try with_reducible rfl))
            (try simp only [Act.put, List.setIfInBounds_toArray, List.set_cons_zero, List.set_cons_succ])
            refine wpAnyX_takeE (i := 6) (oi := { dst := some 99, op := Op.load 39 (Operand.tmp 98), type := 39, pos := "journal.go:109", after := #[{ on := 5, ground := Ground.data }], guard := none }) (v := rv) rfl (by kernel_rfl) (by kernel_rfl) (by kernel_rfl) (fun _ _ _ h => h) rfl (by kernel_rfl) (by kernel_rfl) (by kernel_rfl) (Or.inl ⟨by rfl, fun w h => by have c9 := h.2 rfl; go_simp⟩) hHeld ?_
            (try simp only [Act.put, List.setIfInBounds_toArray, List.set_cons_zero, List.set_cons_succ])
            refine wpAnyX_takeE (i := 7) (oi := { dst := some 100, op := Op.move (Operand.tmp 13), type := 22, pos := "journal.go:109", after := #[], guard := none }) (v := ?v4007) rfl (by kernel_rfl) (by kernel_rfl) (by kernel_rfl) (fun _ _ _ h => h) rfl (by kernel_rfl) (by kernel_rfl) (by kernel_rfl) (Or.inl ⟨by rfl, ?hy4007⟩) hHeld ?_
            case hy4007 => (intro w hSw; (try dsimp only at hSw); go_simp; (try with_reducible rfl))
            (try simp only [Act.put, List.setIfInBounds_toArray, List.set_cons_zero, List.set_cons_succ])
            refine' wpAnyX_takeA (i := 10) (oi := { dst := some 103, op := Op.load 62 (Operand.tmp 14), type := 62, pos := "journal.go:109", after := #[{ on := 14, ground := Ground.gcOnly Departure.lateStores }], guard := none }) (v := _) rfl (by kernel_rfl) (by kernel_rfl) (by kernel_rfl) (fun _ _ _ h => h) rfl (by kernel_rfl) (fun _ h => ⟨h.1, nofun⟩) (b := false) (by kernel_rfl) (yieldsIf_load_mid (by rfl) _ _ rfl V 0 rfl (nums .u8 h5) _ (fun _ h => h.1) Tryz.underlying62 rfl hiZl.out) hHeld ?_
            (try simp only [Act.put, List.setIfInBounds_toArray, List.set_cons_zero, List.set_cons_succ])
            refine wpAnyX_takeA (i := 11) (oi := { dst := some 104, op := Op.move (Operand.tmp 15), type := 3, pos := "journal.go:109", after := #[{ on := 17, ground := Ground.gcOnly Departure.lateStores }], guard := none }) (v := ?v4008) rfl (by kernel_rfl) (by kernel_rfl) (by kernel_rfl) (fun _ _ _ h => h) rfl (by kernel_rfl) (fun _ h => ⟨h.1, nofun⟩) (b := false) (by kernel_rfl) (Or.inl ⟨by rfl, ?hy4008⟩) hHeld ?_
            case hy4008 => (intro w hSw; (try dsimp only at hSw); go_simp; (try with_reducible rfl))
            (try simp only [Act.put, List.setIfInBounds_toArray, List.set_cons_zero, List.set_cons_succ])
            refine wpAnyX_ready (rs := [8]) (by kernel_rfl) (by simp) ?_
            refine AllReadyX.cons (o := { dst := some 101, op := Op.buildSlice 39 1 #[(0, Operand.tmp 100)], type := 39, pos := "journal.go:109", after := #[{ on := 7, ground := Ground.data }], guard := none }) rfl (b := false) (by kernel_rfl) (fun K hK => ?_) ?_
            go_simp; (first | refine newZ ?_ | refine newZd ?_); intro wl HLt BL; have BQ := hid (show Below wz.heap.size wz wl from by first | exact BL.out | exact (Below.refl _ _).drew.trans BL.out)
            refine hK.out _ _ (⟨range_keep BL.out hHeld.1, fun e => cell_keep BL.out (hHeld.2 e)⟩) (fun hHeld => ?_)
            clear hK K
            (try simp only [List.setIfInBounds_toArray, List.set_cons_zero, List.set_cons_succ])
            refine wpAnyX_ready (rs := [9]) (by kernel_rfl) (by simp) ?_
            refine AllReadyX.cons (o := { dst := some 102, op := Op.call { callee := Callee.builtin Builtin.append, args := #[Operand.tmp 99, Operand.tmp 101], argTypes := #[39, 39] }, type := 39, pos := "journal.go:109", after := #[{ on := 6, ground := Ground.data }, { on := 8, ground := Ground.data }], guard := none }) rfl (b := false) (by kernel_rfl) (fun K hK => ?_) ?_
            rw [if_pos (by rfl)]; refine wp_pushK _ _ _ rfl tySs w.heap.size (Below.ownK OZ.out BQ.out) rfl rfl HLt.out rfl (by intro u hu; simp only [List.mem_cons, List.not_mem_nil, or_false] at hu; rcases hu with rfl; rfl) (by first | omega | (simp; omega)) (by decide) (Nat.le_trans WL.out BQ.out.size) ?_; intro v6 w6 own6 k6 nb6; have O6 := hid own6; have K6 := hid k6; clear own6 k6 nb6
            refine hK.out _ _ (⟨K6.out.range hHeld.1 (fun e => hneR.out e), fun e => K6.out.cell (hHeld.2 e) (fun e => rv_ne_jb JZ.out OZ.out e rfl)⟩) (fun hHeld => ?_)
            clear hK K
            (try simp only [List.setIfInBounds_toArray, List.set_cons_zero, List.set_cons_succ])
            refine wpAnyX_takeA (i := 12) (oi := { dst := some 105, op := Op.nilCheck (Operand.tmp 93), type := 0, pos := "journal.go:109", after := #[{ on := 0, ground := Ground.data }, { on := 0, ground := Ground.phase }, { on := 1, ground := Ground.textOnly Departure.lateStores }, { on := 2, ground := Ground.textOnly Departure.lateStores }, { on := 3, ground := Ground.phase }, { on := 4, ground := Ground.phase }, { on := 5, ground := Ground.phase }, { on := 6, ground := Ground.phase }, { on := 7, ground := Ground.phase }, { on := 8, ground := Ground.phase }, { on := 9, ground := Ground.phase }, { on := 10, ground := Ground.textOnly Departure.lateStores }, { on := 11, ground := Ground.textOnly Departure.lateStores }], guard := none }) (v := ?v4009) rfl (by kernel_rfl) (by kernel_rfl) (by kernel_rfl) (fun _ _ _ h => h) rfl (by kernel_rfl) (fun _ h => ⟨h.1, nofun⟩) (b := false) (by kernel_rfl) (Or.inl ⟨by rfl, ?hy4009⟩) hHeld ?_
            case hy4009 => (intro w hSw; (try dsimp only at hSw); go_simp; (try with_reducible rfl))
            (try simp only [Act.put, List.setIfInBounds_toArray, List.set_cons_zero, List.set_cons_succ])
            refine wpAnyX_takeE (i := 13) (oi := { dst := some 106, op := Op.fieldAddr 64 (Operand.tmp 105) 6, type := 0, pos := "journal.go:109", after := #[{ on := 12, ground := Ground.data }, { on := 0, ground := Ground.phase }, { on := 1, ground := Ground.textOnly Departure.lateStores }, { on := 2, ground := Ground.textOnly Departure.lateStores }, { on := 3, ground := Ground.phase }, { on := 4, ground := Ground.phase }, { on := 5, ground := Ground.phase }, { on := 6, ground := Ground.phase }, { on := 7, ground := Ground.phase }, { on := 8, ground := Ground.phase }, { on := 9, ground := Ground.phase }, { on := 10, ground := Ground.textOnly Departure.lateStores }, { on := 11, ground := Ground.textOnly Departure.lateStores }], guard := none }) (v := ?v4010) rfl (by kernel_rfl) (by kernel_rfl) (by kernel_rfl) (fun _ _ _ h => h) rfl (by kernel_rfl) (by kernel_rfl) (by kernel_rfl) (Or.inl ⟨by rfl, ?hy4010⟩) hHeld ?_
            case hy4010 => (intro w hSw; (try dsimp only at hSw); go_simp; (try with_reducible rfl))
            (try simp only [Act.put, List.setIfInBounds_toArray, List.set_cons_zero, List.set_cons_succ])
            refine wpAnyX_ready (rs := [14]) (by kernel_rfl) (by simp) ?_
            refine AllReadyX.cons (o := { dst := none, op := Op.store 39 (Operand.tmp 106) (Operand.tmp 102), type := 0, pos := "journal.go:109", after := #[{ on := 13, ground := Ground.data }, { on := 9, ground := Ground.data }, { on := 9, ground := Ground.chain }, { on := 0, ground := Ground.phase }, { on := 1, ground := Ground.textOnly Departure.lateStores }, { on := 2, ground := Ground.textOnly Departure.lateStores }, { on := 3, ground := Ground.phase }, { on := 4, ground := Ground.phase }, { on := 5, ground := Ground.phase }, { on := 6, ground := Ground.phase }, { on := 7, ground := Ground.phase }, { on := 8, ground := Ground.phase }, { on := 9, ground := Ground.phase }, { on := 10, ground := Ground.textOnly Departure.lateStores }, { on := 11, ground := Ground.textOnly Departure.lateStores }], guard := none }) rfl (b := true) (by kernel_rfl) (fun K hK => ?_) ?_
            have j6 := hid ((JZ.out.below BQ.out).keep K6.out (fun e => rv_ne_jb JZ.out OZ.out e rfl)); have c9 := j6.out.c37; have z9 := j6.out.fz 37; obtain ⟨a6, c6, rfl, _⟩ := Rd.of_owns O6.out; go_simp; refine j6.out.set37 _ ?_; intro w7 J7 F7
            refine hK.out _ _ (⟨range_far F7.out hHeld.1 hneV.out, nofun⟩) (fun hHeld => ?_)
            clear hK K
            (try simp only [List.setIfInBounds_toArray, List.set_cons_zero, List.set_cons_succ])
            refine wpAnyX_takeA (i := 15) (oi := { dst := some 107, op := Op.nilCheck (Operand.tmp 94), type := 0, pos := "journal.go:109", after := #[{ on := 1, ground := Ground.data }, { on := 0, ground := Ground.phase }, { on := 1, ground := Ground.phase }, { on := 2, ground := Ground.textOnly Departure.lateStores }, { on := 3, ground := Ground.phase }, { on := 4, ground := Ground.phase }, { on := 5, ground := Ground.phase }, { on := 6, ground := Ground.phase }, { on := 7, ground := Ground.phase }, { on := 8, ground := Ground.phase }, { on := 9, ground := Ground.phase }, { on := 10, ground := Ground.phase }, { on := 11, ground := Ground.textOnly Departure.lateStores }, { on := 12, ground := Ground.phase }, { on := 13, ground := Ground.phase }, { on := 14, ground := Ground.phase }], guard := none }) (v := ?v4011) rfl (by kernel_rfl) (by kernel_rfl) (by kernel_rfl) (fun _ _ _ h => h) rfl (by kernel_rfl) (fun _ h => ⟨h.1, nofun⟩) (b := true) (by kernel_rfl) (Or.inl ⟨by rfl, ?hy4011⟩) hHeld ?_
            case hy4011 => (intro w hSw; (try dsimp only at hSw); go_simp; (try with_reducible rfl))
            (try simp only [Act.put, List.setIfInBounds_toArray, List.set_cons_zero, List.set_cons_succ])
            refine wpAnyX_takeA (i := 16) (oi := { dst := some 108, op := Op.fieldAddr 64 (Operand.tmp 107) 4, type := 0, pos := "journal.go:109", after := #[{ on := 15, ground := Ground.data }, { on := 0, ground := Ground.phase }, { on := 1, ground := Ground.phase }, { on := 2, ground := Ground.textOnly Departure.lateStores }, { on := 3, ground := Ground.phase }, { on := 4, ground := Ground.phase }, { on := 5, ground := Ground.phase }, { on := 6, ground := Ground.phase }, { on := 7, ground := Ground.phase }, { on := 8, ground := Ground.phase }, { on := 9, ground := Ground.phase }, { on := 10, ground := Ground.phase }, { on := 11, ground := Ground.textOnly Departure.lateStores }, { on := 12, ground := Ground.phase }, { on := 13, ground := Ground.phase }, { on := 14, ground := Ground.phase }], guard := none }) (v := ?v4012) rfl (by kernel_rfl) (by kernel_rfl) (by kernel_rfl) (fun _ _ _ h => h) rfl (by kernel_rfl) (fun _ h => ⟨h.1, nofun⟩) (b := true) (by kernel_rfl) (Or.inl ⟨by rfl, ?hy4012⟩) hHeld ?_
            case hy4012 => (intro w hSw; (try dsimp only at hSw); go_simp; (try with_reducible rfl))
            (try simp only [Act.put, List.setIfInBounds_toArray, List.set_cons_zero, List.set_cons_succ])
            refine wpAnyX_ready (rs := [17]) (by kernel_rfl) (by simp) ?_
            refine AllReadyX.cons (o := { dst := none, op := Op.store 62 (Operand.tmp 108) (Operand.tmp 103), type := 0, pos := "journal.go:109", after := #[{ on := 16, ground := Ground.data }, { on := 10, ground := Ground.data }, { on := 14, ground := Ground.chain }, { on := 0, ground := Ground.phase }, { on := 1, ground := Ground.phase }, { on := 2, ground := Ground.textOnly Departure.lateStores }, { on := 3, ground := Ground.phase }, { on := 4, ground := Ground.phase }, { on := 5, ground := Ground.phase }, { on := 6, ground := Ground.phase }, { on := 7, ground := Ground.phase }, { on := 8, ground := Ground.phase }, { on := 9, ground := Ground.phase }, { on := 10, ground := Ground.phase }, { on := 11, ground := Ground.textOnly Departure.lateStores }, { on := 12, ground := Ground.phase }, { on := 13, ground := Ground.phase }, { on := 14, ground := Ground.phase }], guard := none }) rfl (b := true) (by kernel_rfl) (fun K hK => ?_) ?_
            rw [if_pos (by rfl)]; refine wp_store_mid _ _ _ rfl w.heap.size 4 (nums .u8 h5).toArray rfl rfl (by rw [hz0.out]; exact J7.out.there) hiZ.out hz1.out ?_; simp only []; refine J7.out.setC h5 l5.out ?_; intro w8 J8 F8
            refine hK.out _ _ (⟨range_far F8.out hHeld.1 hneV.out, nofun⟩) (fun hHeld => ?_)
            clear hK K
            (try simp only [List.setIfInBounds_toArray, List.set_cons_zero, List.set_cons_succ])
            refine wpAnyX_takeA (i := 18) (oi := { dst := some 109, op := Op.nilCheck (Operand.tmp 95), type := 0, pos := "journal.go:109", after := #[{ on := 2, ground := Ground.data }, { on := 0, ground := Ground.phase }, { on := 1, ground := Ground.phase }, { on := 2, ground := Ground.phase }, { on := 3, ground := Ground.phase }, { on := 4, ground := Ground.phase }, { on := 5, ground := Ground.phase }, { on := 6, ground := Ground.phase }, { on := 7, ground := Ground.phase }, { on := 8, ground := Ground.phase }, { on := 9, ground := Ground.phase }, { on := 10, ground := Ground.phase }, { on := 11, ground := Ground.phase }, { on := 12, ground := Ground.phase }, { on := 13, ground := Ground.phase }, { on := 14, ground := Ground.phase }, { on := 15, ground := Ground.phase }, { on := 16, ground := Ground.phase }, { on := 17, ground := Ground.phase }], guard := none }) (v := ?v4013) rfl (by kernel_rfl) (by kernel_rfl) (by kernel_rfl) (fun _ _ _ h => h) rfl (by kernel_rfl) (fun _ h => ⟨h.1, nofun⟩) (b := true) (by kernel_rfl) (Or.inl ⟨by rfl, ?hy4013⟩) hHeld ?_
            case hy4013 => (intro w hSw; (try dsimp only at hSw); go_simp; (try with_reducible rfl))
            (try simp only [Act.put, List.setIfInBounds_toArray, List.set_cons_zero, List.set_cons_succ])
            refine wpAnyX_takeA (i := 19) (oi := { dst := some 110, op := Op.fieldAddr 64 (Operand.tmp 109) 2, type := 0, pos := "journal.go:109", after := #[{ on := 18, ground := Ground.data }, { on := 0, ground := Ground.phase }, { on := 1, ground := Ground.phase }, { on := 2, ground := Ground.phase }, { on := 3, ground := Ground.phase }, { on := 4, ground := Ground.phase }, { on := 5, ground := Ground.phase }, { on := 6, ground := Ground.phase }, { on := 7, ground := Ground.phase }, { on := 8, ground := Ground.phase }, { on := 9, ground := Ground.phase }, { on := 10, ground := Ground.phase }, { on := 11, ground := Ground.phase }, { on := 12, ground := Ground.phase }, { on := 13, ground := Ground.phase }, { on := 14, ground := Ground.phase }, { on := 15, ground := Ground.phase }, { on := 16, ground := Ground.phase }, { on := 17, ground := Ground.phase }], guard := none }) (v := ?v4014) rfl (by kernel_rfl) (by kernel_rfl) (by kernel_rfl) (fun _ _ _ h => h) rfl (by kernel_rfl) (fun _ h => ⟨h.1, nofun⟩) (b := true) (by kernel_rfl) (Or.inl ⟨by rfl, ?hy4014⟩) hHeld ?_
            case hy4014 => (intro w hSw; (try dsimp only at hSw); go_simp; (try with_reducible rfl))
            (try simp only [Act.put, List.setIfInBounds_toArray, List.set_cons_zero, List.set_cons_succ])
            refine wpAnyX_ready (rs := [20]) (by kernel_rfl) (by simp) ?_
            refine AllReadyX.cons (o := { dst := none, op := Op.store 3 (Operand.tmp 110) (Operand.tmp 104), type := 0, pos := "journal.go:109", after := #[{ on := 19, ground := Ground.data }, { on := 11, ground := Ground.data }, { on := 17, ground := Ground.chain }, { on := 0, ground := Ground.phase }, { on := 1, ground := Ground.phase }, { on := 2, ground := Ground.phase }, { on := 3, ground := Ground.phase }, { on := 4, ground := Ground.phase }, { on := 5, ground := Ground.phase }, { on := 6, ground := Ground.phase }, { on := 7, ground := Ground.phase }, { on := 8, ground := Ground.phase }, { on := 9, ground := Ground.phase }, { on := 10, ground := Ground.phase }, { on := 11, ground := Ground.phase }, { on := 12, ground := Ground.phase }, { on := 13, ground := Ground.phase }, { on := 14, ground := Ground.phase }, { on := 15, ground := Ground.phase }, { on := 16, ground := Ground.phase }, { on := 17, ground := Ground.phase }], guard := none }) rfl (b := true) (by kernel_rfl) (fun K hK => ?_) ?_
            have c9 := J8.out.c2; have z9 := J8.out.fz 2; go_simp; refine J8.out.set2 _ ?_; intro w9 J9 F9
            refine hK.out _ _ (⟨range_far F9.out hHeld.1 hneV.out, nofun⟩) (fun hHeld => ?_)
            clear hK K
            (try simp only [List.setIfInBounds_toArray, List.set_cons_zero, List.set_cons_succ])
            refine wpAnyX_done (by kernel_rfl) ?_ _
            rotate_left
            exact AllReadyX.nil
            exact AllReadyX.nil
            exact AllReadyX.nil
            exact AllReadyX.nil
            exact AllReadyX.nil
            all_goals
              have J6' := fun (g : Nat) hg => own_ne_jb j6.out O6.out (g := g) hg
              have FJ := hid (Keep.far' ((F7.out.trans F8.out).trans F9.out))
              have KZ : Keep (fun i => i = w.heap.size ∨ rv.ownBlock = some i) wz w9 := ((Keep.of BQ.out).trans (K6.out.mono (fun _ h => .inr h))).trans (FJ.out.mono (fun _ h => .inl h))
              have NBZ : ∀ i, i < wz.heap.size → (i = w.heap.size ∨ rv.ownBlock = some i) → NoBy wz i := fun i _ e => by
                rcases e with rfl | e
                · exact JZ.out.noBy
                · exact own_noBy OZ.out (by decide) e
              have I9 := hid (show LdI w C w.heap.size db half u st rs p ck w9 from by
                refine ⟨⟨svx, _, done ++ [r], rest, t5, h5, vs ++ [.slice a5 n5 c5], by rw [List.length_append, List.length_singleton]; have := DN.out; have := R5.out; omega, J9.out, (YX.out.below BE.out).keep KZ NBZ, fun d hd => ?_, by rw [RSE.out]; simp, ?_, ?_, CHN.out, R5.out.2.2.2⟩, ?_⟩
                · rw [R5.out.2.1] at hd; exact (recH_ok _ _).2 d hd
                · have := FJ.out.own O6.out (fun g hg e => J6' g hg e)
                  rw [List.length_append, List.length_singleton]; exact this
                · refine JRs.snoc ?_ (YZ.out.keep KZ NBZ)
                  exact (RX.out.keep (Keep.of (S := fun _ => False) BE.out) (fun _ _ h => h.elim)).keep KZ NBZ
                · refine BX.out.trans ((Keep.below ((Keep.of BE.out).trans KZ) (fun i e => ?_) BX.out.size))
                  rcases e with rfl | e
                  · exact Nat.le_refl _
                  · exact (OX.out.lt _ e).1)
              have M9 := hid (show nextOf w9 w.heap.size = t5 by unfold nextOf; rw [J9.out.c2]; rfl)
              have M0 := hid (show nextOf wr w.heap.size = nx by unfold nextOf; rw [JX.out.c2]; rfl)
              clear J6' FJ KZ NBZ J7 J8 J9 F7 F8 F9 j6 O6 K6 HLt BL hHeld
              go_wp2_with (fail)
              go_roundw
              case rel => exact I9.out
              case measure => rw [M9.out, M0.out]; have := R5.out; have := NXL.out; omega
          · generalize hVe : wr.heap.size = V at HC ⊢
            have BVL := hid (Nat.le_of_eq hVe)
            clear hVe
            have JZ := hid (JX.out.below BE.out)
            have OZ := hid (Below.ownK OX.out BE.out)
            have WL := hid (show w.heap.size ≤ wz.heap.size from Nat.le_trans BX.out.size BE.out.size)
            have hneV := hid (show V ≠ w.heap.size by have := JX.out.lt; have := BVL.out; omega)
            have hneR := hid (show ¬ rv.ownBlock = some V from fun e => by have := (OX.out.lt _ e).2; have := BVL.out; omega)
            have few := hid (show done.length < 4096 by have := FEW.out; have := NXL.out; have := DN.out; omega)
            clear hHeld
            go_upto_region 16 with (fail)
            have flw := few.out
            refine wp_region_X (l := 14) (S := fun b w' => w'.rangeAt V 0 (nums .u8 h5) ∧ (b = false → w'.cell? ⟨w.heap.size, 37, none⟩ = some rv)) (by kernel_rfl) (⟨row_range HC.out, fun _ => JZ.out.c37⟩) (fun hHeld => ?_)
            try simp only [List.size_toArray, List.length_cons, List.length_nil, Nat.reduceAdd, Array.replicate_succ, Array.replicate_zero, List.push_toArray, List.nil_append, List.cons_append]
            refine wpAnyX_takeE (i := 0) (oi := { dst := some 93, op := Op.move (Operand.tmp 6), type := 26, pos := "journal.go:109", after := #[], guard := none }) (v := ?v5001) rfl (by kernel_rfl) (by kernel_rfl) (by kernel_rfl) (fun _ _ _ h => h) rfl (by kernel_rfl) (by kernel_rfl) (by kernel_rfl) (Or.inl ⟨by rfl, ?hy5001⟩) hHeld ?_
            case hy5001 => (intro w hSw; (try dsimp only at hSw); go_simp; (try with_reducible rfl))
            (try simp only [Act.put, List.setIfInBounds_toArray, List.set_cons_zero, List.set_cons_succ])
            refine wpAnyX_takeA (i := 1) (oi := { dst := some 94, op := Op.move (Operand.tmp 6), type := 26, pos := "journal.go:109", after := #[{ on := 14, ground := Ground.gcOnly Departure.lateStores }], guard := none }) (v := ?v5002) rfl (by kernel_rfl) (by kernel_rfl) (by kernel_rfl) (fun _ _ _ h => h) rfl (by kernel_rfl) (fun _ h => ⟨h.1, nofun⟩) (b := false) (by kernel_rfl) (Or.inl ⟨by rfl, ?hy5002⟩) hHeld ?_
            case hy5002 => (intro w hSw; (try dsimp only at hSw); go_simp; (try with_reducible rfl))
            (try simp only [Act.put, List.setIfInBounds_toArray, List.set_cons_zero, List.set_cons_succ])
            refine wpAnyX_takeA (i := 2) (oi := { dst := some 95, op := Op.move (Operand.tmp 6), type := 26, pos := "journal.go:109", after := #[{ on := 17, ground := Ground.gcOnly Departure.lateStores }], guard := none }) (v := ?v5003) rfl (by kernel_rfl) (by kernel_rfl) (by kernel_rfl) (fun _ _ _ h => h) rfl (by kernel_rfl) (fun _ h => ⟨h.1, nofun⟩) (b := false) (by kernel_rfl) (Or.inl ⟨by rfl, ?hy5003⟩) hHeld ?_
            case hy5003 => (intro w hSw; (try dsimp only at hSw); go_simp; (try with_reducible rfl))
            (try simp only [Act.put, List.setIfInBounds_toArray, List.set_cons_zero, List.set_cons_succ])
            refine wpAnyX_takeE (i := 3) (oi := { dst := some 96, op := Op.move (Operand.tmp 6), type := 26, pos := "journal.go:109", after := #[], guard := none }) (v := ?v5004) rfl (by kernel_rfl) (by kernel_rfl) (by kernel_rfl) (fun _ _ _ h => h) rfl (by kernel_rfl) (by kernel_rfl) (by kernel_rfl) (Or.inl ⟨by rfl, ?hy5004⟩) hHeld ?_
            case hy5004 => (intro w hSw; (try dsimp only at hSw); go_simp; (try with_reducible rfl))
            (try simp only [Act.put, List.setIfInBounds_toArray, List.set_cons_zero, List.set_cons_succ])
            refine wpAnyX_takeE (i := 4) (oi := { dst := some 97, op := Op.nilCheck (Operand.tmp 96), type := 0, pos := "journal.go:109", after := #[{ on := 3, ground := Ground.data }], guard := none }) (v := ?v5005) rfl (by kernel_rfl) (by kernel_rfl) (by kernel_rfl) (fun _ _ _ h => h) rfl (by kernel_rfl) (by kernel_rfl) (by kernel_rfl) (Or.inl ⟨by rfl, ?hy5005⟩) hHeld ?_
            case hy5005 => (intro w hSw; (try dsimp only at hSw); go_simp; (try with_reducible rfl))
            (try simp only [Act.put, List.setIfInBounds_toArray, List.set_cons_zero, List.set_cons_succ])
            refine wpAnyX_takeE (i := 5) (oi := { dst := some 98, op := Op.fieldAddr 64 (Operand.tmp 97) 6, type := 0, pos := "journal.go:109", after := #[{ on := 4, ground := Ground.data }], guard := none }) (v := ?v5006) rfl (by kernel_rfl) (by kernel_rfl) (by kernel_rfl) (fun _ _ _ h => h) rfl (by kernel_rfl) (by kernel_rfl) (by kernel_rfl) (Or.inl ⟨by rfl, ?hy5006⟩) hHeld ?_
            case hy5006 => (intro w hSw; (try dsimp only at hSw); go_simp; (try with_reducible rfl))
            (try simp only [Act.put, List.setIfInBounds_toArray, List.set_cons_zero, List.set_cons_succ])
            refine wpAnyX_takeE (i := 6) (oi := { dst := some 99, op := Op.load 39 (Operand.tmp 98), type := 39, pos := "journal.go:109", after := #[{ on := 5, ground := Ground.data }], guard := none }) (v := rv) rfl (by kernel_rfl) (by kernel_rfl) (by kernel_rfl) (fun _ _ _ h => h) rfl (by kernel_rfl) (by kernel_rfl) (by kernel_rfl) (Or.inl ⟨by rfl, fun w h => by have c9 := h.2 rfl; go_simp⟩) hHeld ?_
            (try simp only [Act.put, List.setIfInBounds_toArray, List.set_cons_zero, List.set_cons_succ])
            refine wpAnyX_takeE (i := 7) (oi := { dst := some 100, op := Op.move (Operand.tmp 13), type := 22, pos := "journal.go:109", after := #[], guard := none }) (v := ?v5007) rfl (by kernel_rfl) (by kernel_rfl) (by kernel_rfl) (fun _ _ _ h => h) rfl (by kernel_rfl) (by kernel_rfl) (by kernel_rfl) (Or.inl ⟨by rfl, ?hy5007⟩) hHeld ?_
            case hy5007 => (intro w hSw; (try dsimp only at hSw); go_simp; (try with_reducible rfl))
            (try simp only [Act.put, List.setIfInBounds_toArray, List.set_cons_zero, List.set_cons_succ])
            refine' wpAnyX_takeA (i := 10) (oi := { dst := some 103, op := Op.load 62 (Operand.tmp 14), type := 62, pos := "journal.go:109", after := #[{ on := 14, ground := Ground.gcOnly Departure.lateStores }], guard := none }) (v := _) rfl (by kernel_rfl) (by kernel_rfl) (by kernel_rfl) (fun _ _ _ h => h) rfl (by kernel_rfl) (fun _ h => ⟨h.1, nofun⟩) (b := false) (by kernel_rfl) (yieldsIf_load_mid (by rfl) _ _ rfl V 0 rfl (nums .u8 h5) _ (fun _ h => h.1) Tryz.underlying62 rfl hiZl.out) hHeld ?_
            (try simp only [Act.put, List.setIfInBounds_toArray, List.set_cons_zero, List.set_cons_succ])
            refine wpAnyX_takeA (i := 11) (oi := { dst := some 104, op := Op.move (Operand.tmp 15), type := 3, pos := "journal.go:109", after := #[{ on := 17, ground := Ground.gcOnly Departure.lateStores }], guard := none }) (v := ?v5008) rfl (by kernel_rfl) (by kernel_rfl) (by kernel_rfl) (fun _ _ _ h => h) rfl (by kernel_rfl) (fun _ h => ⟨h.1, nofun⟩) (b := false) (by kernel_rfl) (Or.inl ⟨by rfl, ?hy5008⟩) hHeld ?_
            case hy5008 => (intro w hSw; (try dsimp only at hSw); go_simp; (try with_reducible rfl))
            (try simp only [Act.put, List.setIfInBounds_toArray, List.set_cons_zero, List.set_cons_succ])
            refine wpAnyX_ready (rs := [8]) (by kernel_rfl) (by simp) ?_
            refine AllReadyX.cons (o := { dst := some 101, op := Op.buildSlice 39 1 #[(0, Operand.tmp 100)], type := 39, pos := "journal.go:109", after := #[{ on := 7, ground := Ground.data }], guard := none }) rfl (b := false) (by kernel_rfl) (fun K hK => ?_) ?_
            go_simp; (first | refine newZ ?_ | refine newZd ?_); intro wl HLt BL; have BQ := hid (show Below wz.heap.size wz wl from by first | exact BL.out | exact (Below.refl _ _).drew.trans BL.out)
            refine hK.out _ _ (⟨range_keep BL.out hHeld.1, fun e => cell_keep BL.out (hHeld.2 e)⟩) (fun hHeld => ?_)
            clear hK K
            (try simp only [List.setIfInBounds_toArray, List.set_cons_zero, List.set_cons_succ])
            refine wpAnyX_ready (rs := [9]) (by kernel_rfl) (by simp) ?_
            refine AllReadyX.cons (o := { dst := some 102, op := Op.call { callee := Callee.builtin Builtin.append, args := #[Operand.tmp 99, Operand.tmp 101], argTypes := #[39, 39] }, type := 39, pos := "journal.go:109", after := #[{ on := 6, ground := Ground.data }, { on := 8, ground := Ground.data }], guard := none }) rfl (b := false) (by kernel_rfl) (fun K hK => ?_) ?_
            rw [if_pos (by rfl)]; refine wp_pushK _ _ _ rfl tySs w.heap.size (Below.ownK OZ.out BQ.out) rfl rfl HLt.out rfl (by intro u hu; simp only [List.mem_cons, List.not_mem_nil, or_false] at hu; rcases hu with rfl; rfl) (by first | omega | (simp; omega)) (by decide) (Nat.le_trans WL.out BQ.out.size) ?_; intro v6 w6 own6 k6 nb6; have O6 := hid own6; have K6 := hid k6; clear own6 k6 nb6
            refine hK.out _ _ (⟨K6.out.range hHeld.1 (fun e => hneR.out e), fun e => K6.out.cell (hHeld.2 e) (fun e => rv_ne_jb JZ.out OZ.out e rfl)⟩) (fun hHeld => ?_)
            clear hK K
            (try simp only [List.setIfInBounds_toArray, List.set_cons_zero, List.set_cons_succ])
            refine wpAnyX_takeA (i := 12) (oi := { dst := some 105, op := Op.nilCheck (Operand.tmp 93), type := 0, pos := "journal.go:109", after := #[{ on := 0, ground := Ground.data }, { on := 0, ground := Ground.phase }, { on := 1, ground := Ground.textOnly Departure.lateStores }, { on := 2, ground := Ground.textOnly Departure.lateStores }, { on := 3, ground := Ground.phase }, { on := 4, ground := Ground.phase }, { on := 5, ground := Ground.phase }, { on := 6, ground := Ground.phase }, { on := 7, ground := Ground.phase }, { on := 8, ground := Ground.phase }, { on := 9, ground := Ground.phase }, { on := 10, ground := Ground.textOnly Departure.lateStores }, { on := 11, ground := Ground.textOnly Departure.lateStores }], guard := none }) (v := ?v5009) rfl (by kernel_rfl) (by kernel_rfl) (by kernel_rfl) (fun _ _ _ h => h) rfl (by kernel_rfl) (fun _ h => ⟨h.1, nofun⟩) (b := false) (by kernel_rfl) (Or.inl ⟨by rfl, ?hy5009⟩) hHeld ?_
            case hy5009 => (intro w hSw; (try dsimp only at hSw); go_simp; (try with_reducible rfl))
            (try simp only [Act.put, List.setIfInBounds_toArray, List.set_cons_zero, List.set_cons_succ])
            refine wpAnyX_takeE (i := 13) (oi := { dst := some 106, op := Op.fieldAddr 64 (Operand.tmp 105) 6, type := 0, pos := "journal.go:109", after := #[{ on := 12, ground := Ground.data }, { on := 0, ground := Ground.phase }, { on := 1, ground := Ground.textOnly Departure.lateStores }, { on := 2, ground := Ground.textOnly Departure.lateStores }, { on := 3, ground := Ground.phase }, { on := 4, ground := Ground.phase }, { on := 5, ground := Ground.phase }, { on := 6, ground := Ground.phase }, { on := 7, ground := Ground.phase }, { on := 8, ground := Ground.phase }, { on := 9, ground := Ground.phase }, { on := 10, ground := Ground.textOnly Departure.lateStores }, { on := 11, ground := Ground.textOnly Departure.lateStores }], guard := none }) (v := ?v5010) rfl (by kernel_rfl) (by kernel_rfl) (by kernel_rfl) (fun _ _ _ h => h) rfl (by kernel_rfl) (by kernel_rfl) (by kernel_rfl) (Or.inl ⟨by rfl, ?hy5010⟩) hHeld ?_
            case hy5010 => (intro w hSw; (try dsimp only at hSw); go_simp; (try with_reducible rfl))
            (try simp only [Act.put, List.setIfInBounds_toArray, List.set_cons_zero, List.set_cons_succ])
            refine wpAnyX_ready (rs := [14]) (by kernel_rfl) (by simp) ?_
            refine AllReadyX.cons (o := { dst := none, op := Op.store 39 (Operand.tmp 106) (Operand.tmp 102), type := 0, pos := "journal.go:109", after := #[{ on := 13, ground := Ground.data }, { on := 9, ground := Ground.data }, { on := 9, ground := Ground.chain }, { on := 0, ground := Ground.phase }, { on := 1, ground := Ground.textOnly Departure.lateStores }, { on := 2, ground := Ground.textOnly Departure.lateStores }, { on := 3, ground := Ground.phase }, { on := 4, ground := Ground.phase }, { on := 5, ground := Ground.phase }, { on := 6, ground := Ground.phase }, { on := 7, ground := Ground.phase }, { on := 8, ground := Ground.phase }, { on := 9, ground := Ground.phase }, { on := 10, ground := Ground.textOnly Departure.lateStores }, { on := 11, ground := Ground.textOnly Departure.lateStores }], guard := none }) rfl (b := true) (by kernel_rfl) (fun K hK => ?_) ?_
            have j6 := hid ((JZ.out.below BQ.out).keep K6.out (fun e => rv_ne_jb JZ.out OZ.out e rfl)); have c9 := j6.out.c37; have z9 := j6.out.fz 37; obtain ⟨a6, c6, rfl, _⟩ := Rd.of_owns O6.out; go_simp; refine j6.out.set37 _ ?_; intro w7 J7 F7
            refine hK.out _ _ (⟨range_far F7.out hHeld.1 hneV.out, nofun⟩) (fun hHeld => ?_)
            clear hK K
            (try simp only [List.setIfInBounds_toArray, List.set_cons_zero, List.set_cons_succ])
            refine wpAnyX_takeA (i := 15) (oi := { dst := some 107, op := Op.nilCheck (Operand.tmp 94), type := 0, pos := "journal.go:109", after := #[{ on := 1, ground := Ground.data }, { on := 0, ground := Ground.phase }, { on := 1, ground := Ground.phase }, { on := 2, ground := Ground.textOnly Departure.lateStores }, { on := 3, ground := Ground.phase }, { on := 4, ground := Ground.phase }, { on := 5, ground := Ground.phase }, { on := 6, ground := Ground.phase }, { on := 7, ground := Ground.phase }, { on := 8, ground := Ground.phase }, { on := 9, ground := Ground.phase }, { on := 10, ground := Ground.phase }, { on := 11, ground := Ground.textOnly Departure.lateStores }, { on := 12, ground := Ground.phase }, { on := 13, ground := Ground.phase }, { on := 14, ground := Ground.phase }], guard := none }) (v := ?v5011) rfl (by kernel_rfl) (by kernel_rfl) (by kernel_rfl) (fun _ _ _ h => h) rfl (by kernel_rfl) (fun _ h => ⟨h.1, nofun⟩) (b := true) (by kernel_rfl) (Or.inl ⟨by rfl, ?hy5011⟩) hHeld ?_
            case hy5011 => (intro w hSw; (try dsimp only at hSw); go_simp; (try with_reducible rfl))
            (try simp only [Act.put, List.setIfInBounds_toArray, List.set_cons_zero, List.set_cons_succ])
            refine wpAnyX_takeA (i := 16) (oi := { dst := some 108, op := Op.fieldAddr 64 (Operand.tmp 107) 4, type := 0, pos := "journal.go:109", after := #[{ on := 15, ground := Ground.data }, { on := 0, ground := Ground.phase }, { on := 1, ground := Ground.phase }, { on := 2, ground := Ground.textOnly Departure.lateStores }, { on := 3, ground := Ground.phase }, { on := 4, ground := Ground.phase }, { on := 5, ground := Ground.phase }, { on := 6, ground := Ground.phase }, { on := 7, ground := Ground.phase }, { on := 8, ground := Ground.phase }, { on := 9, ground := Ground.phase }, { on := 10, ground := Ground.phase }, { on := 11, ground := Ground.textOnly Departure.lateStores }, { on := 12, ground := Ground.phase }, { on := 13, ground := Ground.phase }, { on := 14, ground := Ground.phase }], guard := none }) (v := ?v5012) rfl (by kernel_rfl) (by kernel_rfl) (by kernel_rfl) (fun _ _ _ h => h) rfl (by kernel_rfl) (fun _ h => ⟨h.1, nofun⟩) (b := true) (by kernel_rfl) (Or.inl ⟨by rfl, ?hy5012⟩) hHeld ?_
            case hy5012 => (intro w hSw; (try dsimp only at hSw); go_simp; (try with_reducible rfl))
            (try simp only [Act.put, List.setIfInBounds_toArray, List.set_cons_zero, List.set_cons_succ])
            refine wpAnyX_ready (rs := [17]) (by kernel_rfl) (by simp) ?_
            refine AllReadyX.cons (o := { dst := none, op := Op.store 62 (Operand.tmp 108) (Operand.tmp 103), type := 0, pos := "journal.go:109", after := #[{ on := 16, ground := Ground.data }, { on := 10, ground := Ground.data }, { on := 14, ground := Ground.chain }, { on := 0, ground := Ground.phase }, { on := 1, ground := Ground.phase }, { on := 2, ground := Ground.textOnly Departure.lateStores }, { on := 3, ground := Ground.phase }, { on := 4, ground := Ground.phase }, { on := 5, ground := Ground.phase }, { on := 6, ground := Ground.phase }, { on := 7, ground := Ground.phase }, { on := 8, ground := Ground.phase }, { on := 9, ground := Ground.phase }, { on := 10, ground := Ground.phase }, { on := 11, ground := Ground.textOnly Departure.lateStores }, { on := 12, ground := Ground.phase }, { on := 13, ground := Ground.phase }, { on := 14, ground := Ground.phase }], guard := none }) rfl (b := true) (by kernel_rfl) (fun K hK => ?_) ?_
            rw [if_pos (by rfl)]; refine wp_store_mid _ _ _ rfl w.heap.size 4 (nums .u8 h5).toArray rfl rfl (by rw [hz0.out]; exact J7.out.there) hiZ.out hz1.out ?_; simp only []; refine J7.out.setC h5 l5.out ?_; intro w8 J8 F8
            refine hK.out _ _ (⟨range_far F8.out hHeld.1 hneV.out, nofun⟩) (fun hHeld => ?_)
            clear hK K
            (try simp only [List.setIfInBounds_toArray, List.set_cons_zero, List.set_cons_succ])
            refine wpAnyX_takeA (i := 18) (oi := { dst := some 109, op := Op.nilCheck (Operand.tmp 95), type := 0, pos := "journal.go:109", after := #[{ on := 2, ground := Ground.data }, { on := 0, ground := Ground.phase }, { on := 1, ground := Ground.phase }, { on := 2, ground := Ground.phase }, { on := 3, ground := Ground.phase }, { on := 4, ground := Ground.phase }, { on := 5, ground := Ground.phase }, { on := 6, ground := Ground.phase }, { on := 7, ground := Ground.phase }, { on := 8, ground := Ground.phase }, { on := 9, ground := Ground.phase }, { on := 10, ground := Ground.phase }, { on := 11, ground := Ground.phase }, { on := 12, ground := Ground.phase }, { on := 13, ground := Ground.phase }, { on := 14, ground := Ground.phase }, { on := 15, ground := Ground.phase }, { on := 16, ground := Ground.phase }, { on := 17, ground := Ground.phase }], guard := none }) (v := ?v5013) rfl (by kernel_rfl) (by kernel_rfl) (by kernel_rfl) (fun _ _ _ h => h) rfl (by kernel_rfl) (fun _ h => ⟨h.1, nofun⟩) (b := true) (by kernel_rfl) (Or.inl ⟨by rfl, ?hy5013⟩) hHeld ?_
            case hy5013 => (intro w hSw; (try dsimp only at hSw); go_simp; (try with_reducible rfl))
            (try simp only [Act.put, List.setIfInBounds_toArray, List.set_cons_zero, List.set_cons_succ])
            refine wpAnyX_takeA (i := 19) (oi := { dst := some 110, op := Op.fieldAddr 64 (Operand.tmp 109) 2, type := 0, pos := "journal.go:109", after := #[{ on := 18, ground := Ground.data }, { on := 0, ground := Ground.phase }, { on := 1, ground := Ground.phase }, { on := 2, ground := Ground.phase }, { on := 3, ground := Ground.phase }, { on := 4, ground := Ground.phase }, { on := 5, ground := Ground.phase }, { on := 6, ground := Ground.phase }, { on := 7, ground := Ground.phase }, { on := 8, ground := Ground.phase }, { on := 9, ground := Ground.phase }, { on := 10, ground := Ground.phase }, { on := 11, ground := Ground.phase }, { on := 12, ground := Ground.phase }, { on := 13, ground := Ground.phase }, { on := 14, ground := Ground.phase }, { on := 15, ground := Ground.phase }, { on := 16, ground := Ground.phase }, { on := 17, ground := Ground.phase }], guard := none }) (v := ?v5014) rfl (by kernel_rfl) (by kernel_rfl) (by kernel_rfl) (fun _ _ _ h => h) rfl (by kernel_rfl) (fun _ h => ⟨h.1, nofun⟩) (b := true) (by kernel_rfl) (Or.inl ⟨by rfl, ?hy5014⟩) hHeld ?_
            case hy5014 => (intro w hSw; (try dsimp only at hSw); go_simp; (try with_reducible rfl))
            (try simp only [Act.put, List.setIfInBounds_toArray, List.set_cons_zero, List.set_cons_succ])
            refine wpAnyX_ready (rs := [20]) (by kernel_rfl) (by simp) ?_
            refine AllReadyX.cons (o := { dst := none, op := Op.store 3 (Operand.tmp 110) (Operand.tmp 104), type := 0, pos := "journal.go:109", after := #[{ on := 19, ground := Ground.data }, { on := 11, ground := Ground.data }, { on := 17, ground := Ground.chain }, { on := 0, ground := Ground.phase }, { on := 1, ground := Ground.phase }, { on := 2, ground := Ground.phase }, { on := 3, ground := Ground.phase }, { on := 4, ground := Ground.phase }, { on := 5, ground := Ground.phase }, { on := 6, ground := Ground.phase }, { on := 7, ground := Ground.phase }, { on := 8, ground := Ground.phase }, { on := 9, ground := Ground.phase }, { on := 10, ground := Ground.phase }, { on := 11, ground := Ground.phase }, { on := 12, ground := Ground.phase }, { on := 13, ground := Ground.phase }, { on := 14, ground := Ground.phase }, { on := 15, ground := Ground.phase }, { on := 16, ground := Ground.phase }, { on := 17, ground := Ground.phase }], guard := none }) rfl (b := true) (by kernel_rfl) (fun K hK => ?_) ?_
            have c9 := J8.out.c2; have z9 := J8.out.fz 2; go_simp; refine J8.out.set2 _ ?_; intro w9 J9 F9
            refine hK.out _ _ (⟨range_far F9.out hHeld.1 hneV.out, nofun⟩) (fun hHeld => ?_)
            clear hK K
            (try simp only [List.setIfInBounds_toArray, List.set_cons_zero, List.set_cons_succ])
            refine wpAnyX_done (by kernel_rfl) ?_ _
            rotate_left
            exact AllReadyX.nil
            exact AllReadyX.nil
            exact AllReadyX.nil
            exact AllReadyX.nil
            exact AllReadyX.nil
            all_goals
              have J6' := fun (g : Nat) hg => own_ne_jb j6.out O6.out (g := g) hg
              have FJ := hid (Keep.far' ((F7.out.trans F8.out).trans F9.out))
              have KZ : Keep (fun i => i = w.heap.size ∨ rv.ownBlock = some i) wz w9 := ((Keep.of BQ.out).trans (K6.out.mono (fun _ h => .inr h))).trans (FJ.out.mono (fun _ h => .inl h))
              have NBZ : ∀ i, i < wz.heap.size → (i = w.heap.size ∨ rv.ownBlock = some i) → NoBy wz i := fun i _ e => by
                rcases e with rfl | e
                · exact JZ.out.noBy
                · exact own_noBy OZ.out (by decide) e
              have I9 := hid (show LdI w C w.heap.size db half u st rs p ck w9 from by
                refine ⟨⟨svx, _, done ++ [r], rest, t5, h5, vs ++ [.slice a5 n5 c5], by rw [List.length_append, List.length_singleton]; have := DN.out; have := R5.out; omega, J9.out, (YX.out.below BE.out).keep KZ NBZ, fun d hd => ?_, by rw [RSE.out]; simp, ?_, ?_, CHN.out, R5.out.2.2.2⟩, ?_⟩
                · rw [R5.out.2.1] at hd; exact (recH_ok _ _).2 d hd
                · have := FJ.out.own O6.out (fun g hg e => J6' g hg e)
                  rw [List.length_append, List.length_singleton]; exact this
                · refine JRs.snoc ?_ (YZ.out.keep KZ NBZ)
                  exact (RX.out.keep (Keep.of (S := fun _ => False) BE.out) (fun _ _ h => h.elim)).keep KZ NBZ
                · refine BX.out.trans ((Keep.below ((Keep.of BE.out).trans KZ) (fun i e => ?_) BX.out.size))
                  rcases e with rfl | e
                  · exact Nat.le_refl _
                  · exact (OX.out.lt _ e).1)
              have M9 := hid (show nextOf w9 w.heap.size = t5 by unfold nextOf; rw [J9.out.c2]; rfl)
              have M0 := hid (show nextOf wr w.heap.size = nx by unfold nextOf; rw [JX.out.c2]; rfl)
              clear J6' FJ KZ NBZ J7 J8 J9 F7 F8 F9 j6 O6 K6 HLt BL hHeld
              go_wp2_with (fail)
              go_roundw
              case rel => exact I9.out
              case measure => rw [M9.out, M0.out]; have := R5.out; have := NXL.out; omega
    case pos =>
      have t3 : decide (i < 8) = true := decide_eq_true hlt
      have t4 : decide ((i : Int) < 8) = true := decide_eq_true (by omega)
      have t5 : ¬ ((8 : Int) ≤ (i : Int)) := by omega
      have t6 : (i : Int) < 8 := by omega
      obtain ⟨ti, hti⟩ : ∃ ti, ti = tpre u i := ⟨_, rfl⟩
      obtain ⟨d, hd⟩ : ∃ d, d = (be8 u)[i]'(by rw [be8_len]; exact hlt) := ⟨_, rfl⟩
      have hd8 : d < 256 := by rw [hd]; exact be8_lt u _ (List.getElem_mem ..)
      have hlt' : ti < 72057594037927936 := by rw [hti]; exact tpre_lt HU.out hlt
      have hst := tpre_step (u := u) hlt
      rw [← hti, ← hd] at hst
      have c0 : wr.cell? ⟨g, off + i, none⟩ = some (.int .u8 (d : Int)) := by
        obtain ⟨a', n', c', e, hs, _⟩ := HVr.out
        simp only [Value.slice.injEq] at e
        obtain ⟨rfl, rfl, rfl⟩ := e
        obtain ⟨b, o, h1, h2⟩ := hs.opened
        have := h1 (by have := N8.out; omega)
        simp only [Option.some.injEq, Addr.mk.injEq] at this
        obtain ⟨rfl, rfl, _⟩ := this
        rw [h2 i (by have := N8.out; omega)]
        congr 2
        rw [List.getD_eq_getElem?_getD, List.getElem?_append_left (by rw [be8_len]; exact hlt), List.getElem?_eq_getElem (by rw [be8_len]; exact hlt), hd]
        rfl
      rw [← hti] at JR
      have c3 := JR.out.c3
      have f3 := JR.out.fz 3
      have r1 : IntKind.u64.wrap ((ti : Int) * 256) = (ti : Int) * 256 := by rw [IntKind.wrap_u64]; omega
      have r2 := u64_or_join ti d hlt' hd8
      have r3 : IntKind.u64.wrap (d : Int) = (d : Int) := by rw [IntKind.wrap_u64]; omega
      obtain ⟨tn, htn⟩ : ∃ tn, tn = ti * 256 + d := ⟨_, rfl⟩
      rw [← htn] at r2
      obtain ⟨i1, hi1⟩ : ∃ i1, i1 = i + 1 := ⟨_, rfl⟩
      have r4 : IntKind.i64.wrap ((i : Int) + 1) = (i1 : Int) := by rw [IntKind.wrap_i64]; omega
      have E1 := hid (show i1 = i + 1 ∧ i < 8 ∧ tn = tpre u i1 from ⟨hi1, hlt, by rw [hi1, htn, hst]⟩)
      clear hd hti hst htn hi1 hlt hi hlt' hd8
      go_wp2_with (fail)
      go_roundw
      case rel =>
        obtain ⟨j9, f9⟩ := JR.out.set3 tn (A := ⟨#[], []⟩) (K := fun _ W => JB W w.heap.size db half 0 tn z32 (.slice none 0 0) (.slice none 0 0) false ∧ Far w.heap.size wr W) (fun W h f => ⟨h.out, f.out⟩)
        exact ⟨i1, by have := E1.out; omega, rfl, by rw [← E1.out.2.2]; exact j9, FR.out.trans f9⟩
      case measure => simp [intOf]; have := E1.out; omega
end Go.Proofs.YtnophelfpoldfaaGreatDoor
