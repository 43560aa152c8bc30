/- Tags: the closure that makes a tag's head. -/
import Derived.Test.YtnophelfpoldfaaGreatDoorGShaP
import Derived.Test.YtnophelfpoldfaaGreatDoorGOnce
import Derived.Test.YtnophelfpoldfaaGreatDoorGVar
import Derived.Laws.IdiomStrings
namespace Go.Proofs.YtnophelfpoldfaaGreatDoor
open Go.RowKit

/-- a string's bytes -/
def bl (s : ByteArray) : List Nat := s.data.toList.map (·.toNat)
theorem bl_len (s : ByteArray) : (bl s).length = s.size := by simp [bl]
theorem bl_lt (s : ByteArray) : ∀ d ∈ bl s, d < 256 := by
  intro d hd
  obtain ⟨b, _, rfl⟩ := List.mem_map.1 hd
  exact b.toNat_lt
theorem sl_str (w : World) (s : ByteArray) (e : TypeId) (fr : Nat × Nat) (hs : s.size ≤ 1048576) :
    Sl .u8 (w.alloc (.cells (bytesRow s (grownCap w s.size 0 e)) e fr)) (some ⟨w.heap.size, 0, none⟩) s.size (grownCap w s.size 0 e) (bl s) := by
  refine ⟨by simp [bl_len], grownCap_ge _ _ _ _, grownCap_le_maxLen _ _ _ _ (by unfold maxLen; omega), by simp, w.heap.size, 0, fun _ => rfl, fun j u hu => ?_⟩
  have hj : j < s.data.size := by
    have := (List.getElem?_eq_some_iff.1 hu).1
    rw [nums_length, bl_len] at this
    exact this
  rw [Nat.zero_add, World.cell?_alloc_mark, bytesRow_at s _ j hj]
  rw [nums_get .u8 (by rw [bl_len]; exact hj)] at hu
  rw [← hu]
  have e : s.data[j]? = some s.data[j] := Array.getElem?_eq_getElem hj
  simp [bl, List.getD_eq_getElem?_getD, e]
theorem str_part (w : World) (s : ByteArray) (e e2 : TypeId) (fr : Nat × Nat) (hs : s.size ≤ 1048576) : (((w.alloc (.cells (bytesRow s (grownCap w s.size 0 e)) e fr)).alloc (.cells #[.slice (some ⟨w.heap.size, 0, none⟩) s.size (grownCap w s.size 0 e)] e2)).drew).cell? ⟨w.heap.size + 1, 0, none⟩ = some (.slice (some ⟨w.heap.size, 0, none⟩) s.size (grownCap w s.size 0 e)) ∧
    Sl .u8 ((w.alloc (.cells (bytesRow s (grownCap w s.size 0 e)) e fr)).alloc (.cells #[.slice (some ⟨w.heap.size, 0, none⟩) s.size (grownCap w s.size 0 e)] e2)).drew (some ⟨w.heap.size, 0, none⟩) s.size (grownCap w s.size 0 e) (bl s) ∧
    Below w.heap.size w ((w.alloc (.cells (bytesRow s (grownCap w s.size 0 e)) e fr)).alloc (.cells #[.slice (some ⟨w.heap.size, 0, none⟩) s.size (grownCap w s.size 0 e)] e2)).drew := by
  have S1 := sl_str w s e fr hs
  have B1 := (Below.refl w.heap.size w).alloc (Nat.le_refl _) (.cells (bytesRow s (grownCap w s.size 0 e)) e fr)
  have hz : (w.alloc (.cells (bytesRow s (grownCap w s.size 0 e)) e fr)).heap.size = w.heap.size + 1 := by simp
  generalize w.alloc (.cells (bytesRow s (grownCap w s.size 0 e)) e fr) = w1 at *
  refine ⟨?_, S1.below (((Below.refl _ _).alloc (Nat.le_refl _) _).drew), (B1.alloc (by omega) _).drew⟩
  rw [World.cell?_drew, ← hz]
  exact cellNew1 _ _ _
theorem hs_len {ho : Nat} {cur : Array Value} (h : ho + 74 ≤ cur.size) : (cur.toList.take 74).length = 74 := by simp; omega
theorem hs_info {cur : Array Value} (h : 0 + 74 ≤ cur.size) : (Tryz.prog.info? 126).map (·.size) = some (cur.toList.take 74).length := by rw [hs_len h]; exact infoHs
theorem hs_infoA {cur : Array Value} (h : 0 + 74 ≤ cur.size) : (Tryz.prog.info? 126).map (·.size) = some (cur.toList.take 74).toArray.size := by rw [List.size_toArray]; exact hs_info h
theorem hs_range {w : World} {g : Nat} {cur : Array Value} {T : TypeId} (h : w.heap[g]? = some (.cells cur T (0, 0))) : w.rangeAt g 0 (cur.toList.take 74) := fun j v hj => by
  rw [Nat.zero_add, cell_of_row _ g _ _ T (0, 0) h]
  rw [List.getElem?_take] at hj
  split at hj
  · rw [← Array.getElem?_toList]; exact hj
  · cases hj
theorem hs_one {cur : Array Value} {S R : List Nat} {k n : Nat} (h : HsAt cur 0 S R k n) : (cur.toList.take 74).toArray.all (·.oneCell') = true := by
  refine all_oneCell_toArray fun v hv => ?_
  obtain ⟨j, hj⟩ := List.mem_iff_getElem?.1 hv
  rw [List.getElem?_take] at hj
  split at hj
  · rename_i hlt
    rw [Array.getElem?_toList] at hj
    rcases Nat.lt_or_ge j 8 with h8 | h8
    · have := h.s j h8
      rw [Nat.zero_add, hj] at this
      cases this; rfl
    · rcases Nat.lt_or_ge j 72 with h72 | h72
      · have := h.r (j - 8) (by omega)
        rw [show 0 + 8 + (j - 8) = j by omega, hj] at this
        cases this; rfl
      · rcases (show j = 72 ∨ j = 73 by omega) with rfl | rfl
        · have := h.k
          rw [Nat.zero_add, hj] at this
          cases this; rfl
        · have := h.n
          rw [Nat.zero_add, hj] at this
          cases this; rfl
  · cases hj
theorem hs_moved {cur cur2 : Array Value} {S R : List Nat} {k n : Nat} (h : HsAt cur2 0 S R k n) {o : Nat} (ho : o + 74 ≤ cur.size) : HsAt (setMs cur o (cur2.toList.take 74)) o S R k n ∧ OutEq o cur (setMs cur o (cur2.toList.take 74)) := by
  have hl := hs_len h.sz
  have hg : ∀ j, j < 74 → (setMs cur o (cur2.toList.take 74))[o + j]? = cur2[j]? := fun j hj => by
    rw [setMs_get _ _ _ _ (by omega), if_pos (by omega), show o + j - o = j by omega, List.getElem?_take, if_pos hj, Array.getElem?_toList]
  refine ⟨⟨h.sl, h.rl, by rw [setMs_size]; exact ho, fun i hi => ?_, fun i hi => ?_, ?_, ?_⟩, setMs_size _ _ _, fun j hj => ?_⟩
  · have := h.s i hi
    rw [Nat.zero_add] at this
    rw [hg i (by omega), this]
  · have := h.r i hi
    rw [show 0 + 8 + i = 8 + i by omega] at this
    rw [show o + 8 + i = o + (8 + i) by omega, hg (8 + i) (by omega), this]
  · have := h.k
    rw [Nat.zero_add] at this
    rw [hg 72 (by omega), this]
  · have := h.n
    rw [Nat.zero_add] at this
    rw [hg 73 (by omega), this]
  · rw [setMs_get _ _ _ _ (by omega), if_neg (by omega)]
theorem sl_arr {w : World} {g : Nat} {t : TypeId} {xs : List Nat} (h : w.heap[g]? = some (.cells (nums .u8 xs).toArray t (0, 0))) (hl : xs.length = 32) : Sl .u8 w (some ⟨g, 0, none⟩) 32 32 xs :=
  ⟨by simp [hl], by omega, by unfold maxLen; omega, by simp, g, 0, fun _ => rfl, fun j u hj => by
    rw [Nat.zero_add, cell_of_row _ g _ _ t (0, 0) h, List.getElem?_toArray]
    exact hj⟩
theorem aph_ne {K g n : Nat} (h : K ≠ g) : ApH g (some ⟨K, 0, none⟩) n := by
  intro _ b off ha e
  simp only [Option.some.injEq, Addr.mk.injEq, and_true] at ha
  omega
/-- the bytes ahead of a tag's own: its name's digest, twice -/
def tagH (s : ByteArray) : List Nat := sha (bl s) ++ sha (bl s)
def ClosRes (w : World) (g : Nat) (T : TypeId) (s : ByteArray) (cur : Array Value) (e : Ending) (w' : World) : Prop :=
  e = .returned (.tuple #[]) ∧ Far g w w' ∧ ∃ cur' S R k, w'.heap[g]? = some (.cells cur' T (0, 0)) ∧ OutEq 4 cur cur' ∧ HsAt cur' 4 S R k (tagH s).length ∧ Took (tagH s) S R k
set_option maxRecDepth 100000 in
set_option maxHeartbeats 4000000 in
theorem clos_walk (g P : Nat) (T : TypeId) (s : ByteArray) (cur : Array Value) (w : World) (hs : s.size ≤ 1048576) (hP : w.cell? ⟨P, 0, none⟩ = some (.pointer (some ⟨g, 0, none⟩))) (hg : w.heap[g]? = some (.cells cur T (0, 0))) (hz : cur.size = 79) (hn : cur[0]? = some (.string s))
    (hPg : P ≠ g) (ht : Tabs w) (hg0 : g ≠ 1) (hg1 : g ≠ 2) : Calls Tryz.prog 57 #[.pointer (some ⟨P, 0, none⟩)] w (ClosRes w g T s cur) := by
  have HT := hid ht
  have hPg := hid hPg
  have HG := hid hg
  have hn0 : w.cell? ⟨g, 0, none⟩ = some (.string s) := by rw [cell_of_row _ g _ _ T (0, 0) hg]; exact hn
  have hcv := fun (W : World) => run_bytes_of_string (P := Tryz.prog) W 9 22 5 s Tryz.underlying9 Tryz.underlying22 Tryz.underlying5
  have L1 := hid (str_part w s 5 22 ((bytesRow s (grownCap w s.size 0 5)).size, (bytesRow s (grownCap w s.size 0 5)).size + 1) hs)
  clear ht hg hn
  go_enter Tryz.func57, Tryz.ntmps57
  go_wp2_with (fail)
  refine (sum1_walk _ _ _ _ (bl s) _ L1.out.1 L1.out.2.1 (bl_lt s) (by omega) (HT.out.below L1.out.2.2)).mono ?_
  rintro e w2 ⟨rfl, b2⟩
  have B2 := hid (bstep L1.out.2.2 b2)
  have hdl := sha_len (bl s)
  have hdb := hid (sha_lt (bl s))
  have hTH : tagH s = sha (bl s) ++ sha (bl s) := rfl
  generalize sha (bl s) = D at *
  have hiA : (Tryz.prog.info? 62).map (·.size) = some (nums .u8 D).toArray.size := by rw [List.size_toArray, nums_length, hdl]; kernel_rfl
  have h32 : ∀ z : Array Value, z.size = 32 → z.size = (nums .u8 D).toArray.size := fun z hz => by rw [hz]; simp [hdl]
  have hoA := hid (all_oneCell_toArray (nums_oneCell .u8 D))
  unfold hv
  clear L1 b2
  go_upto_region 1 with (refine wpList_store_row rfl _ _ _ rfl w2.heap.size (nums .u8 D).toArray rfl rfl _ _ (heap_alloc_new w2 _) hiA (h32 _ rfl) hoA.out ?_)
  have LA := fun z => laid w2 z (nums .u8 D).toArray 62
  generalize hW : World.setRow _ _ _ = w3
  replace LA := hid (hW ▸ LA _)
  have B3 := hid (bstep B2.out LA.out.2)
  have KD := hid LA.out.1
  have hk2 : w.heap.size ≤ w2.heap.size := B2.out.size
  clear hW LA B2
  generalize hK : w2.heap.size = K at *
  have HG3 := hid (heap_keep HG.out B3.out)
  have hP3 := hid (cell_keep B3.out hP)
  have HT3 := hid (HT.out.below B3.out)
  have hgl := (Array.getElem?_eq_some_iff.1 HG.out).1
  clear hK hP hn0
  refine wp_region_held_drew (S := fun w' => w'.cell? ⟨P, 0, none⟩ = some (.pointer (some ⟨g, 0, none⟩))) (by kernel_rfl) (hP3.out) (fun hHeld => ?_)
  try simp only [List.size_toArray, List.length_cons, List.length_nil, Nat.reduceAdd, Array.replicate_succ, Array.replicate_zero, List.push_toArray, List.nil_append, List.cons_append]
  refine wpAnyH_take (i := 0) (oi := { dst := some 9, op := Op.load 92 (Operand.tmp 0), type := 92, pos := "sha.go:139", after := #[], guard := none }) (v := ?v1001) rfl (by kernel_rfl) (by kernel_rfl) (by kernel_rfl) (fun _ _ _ h => h) (Or.inl ⟨by rfl, ?hy1001⟩) hHeld ?_
  case hy1001 => (intro w hSw; (try dsimp only at hSw); go_simp; (try with_reducible rfl))
  (try simp only [Act.put, List.setIfInBounds_toArray, List.set_cons_zero, List.set_cons_succ])
  refine wpAnyH_ready (rs := [1]) (by kernel_rfl) (by simp) ?_
  refine AllReadyH.cons (o := { dst := some 10, op := Op.call { callee := Callee.value (Operand.func 59), args := #[], argTypes := #[] }, type := 133, pos := "sha.go:139", after := #[], guard := none }) rfl (fun K hK => ?_) ?_
  go_simp; refine (new_walk _ (HT3.out.below ((Below.refl _ _).drew))).mono ?_; rintro e wA ⟨gA, curA, TA, rfl, lA, bA, hA, sA⟩; have BA := hid ((((Below.refl w3.heap.size w3).drew)).trans bA); have HA := hid hA; have SA := hid sA; clear bA hA sA
  refine hK.out _ _ (cell_keep BA.out hP3.out) (fun hHeld => ?_)
  clear hK K
  (try simp only [List.setIfInBounds_toArray, List.set_cons_zero, List.set_cons_succ])
  refine wpAnyH_take (i := 2) (oi := { dst := some 11, op := Op.nilCheck (Operand.tmp 10), type := 0, pos := "sha.go:139", after := #[{ on := 1, ground := Ground.data }], guard := none }) (v := ?v1002) rfl (by kernel_rfl) (by kernel_rfl) (by kernel_rfl) (fun _ _ _ h => h) (Or.inl ⟨by rfl, ?hy1002⟩) hHeld ?_
  case hy1002 => (intro w hSw; (try dsimp only at hSw); go_simp; (try with_reducible rfl))
  (try simp only [Act.put, List.setIfInBounds_toArray, List.set_cons_zero, List.set_cons_succ])
  refine wpAnyH_ready (rs := [3]) (by kernel_rfl) (by simp) ?_
  refine AllReadyH.cons (o := { dst := some 12, op := Op.load 126 (Operand.tmp 11), type := 126, pos := "sha.go:139", after := #[{ on := 2, ground := Ground.data }], guard := none }) rfl (fun K hK => ?_) ?_
  rw [if_pos (by rfl)]; refine wp_load_mid _ _ rfl gA 0 rfl (curA.toList.take 74) _ (hs_range HA.out) Tryz.underlying126 rfl (hs_info SA.out.sz) ?_
  refine hK.out _ _ (hHeld) (fun hHeld => ?_)
  clear hK K
  (try simp only [List.setIfInBounds_toArray, List.set_cons_zero, List.set_cons_succ])
  refine wpAnyH_take (i := 4) (oi := { dst := some 13, op := Op.nilCheck (Operand.tmp 9), type := 0, pos := "sha.go:139", after := #[{ on := 0, ground := Ground.data }, { on := 0, ground := Ground.phase }, { on := 1, ground := Ground.phase }, { on := 2, ground := Ground.phase }, { on := 3, ground := Ground.phase }], guard := none }) (v := ?v1003) rfl (by kernel_rfl) (by kernel_rfl) (by kernel_rfl) (fun _ _ _ h => h) (Or.inl ⟨by rfl, ?hy1003⟩) hHeld ?_
  case hy1003 => (intro w hSw; (try dsimp only at hSw); go_simp; (try with_reducible rfl))
  (try simp only [Act.put, List.setIfInBounds_toArray, List.set_cons_zero, List.set_cons_succ])
  refine wpAnyH_take (i := 5) (oi := { dst := some 14, op := Op.fieldAddr 131 (Operand.tmp 13) 2, type := 0, pos := "sha.go:139", after := #[{ on := 4, ground := Ground.data }, { on := 0, ground := Ground.phase }, { on := 1, ground := Ground.phase }, { on := 2, ground := Ground.phase }, { on := 3, ground := Ground.phase }], guard := none }) (v := ?v1004) rfl (by kernel_rfl) (by kernel_rfl) (by kernel_rfl) (fun _ _ _ h => h) (Or.inl ⟨by rfl, ?hy1004⟩) hHeld ?_
  case hy1004 => (intro w hSw; (try dsimp only at hSw); go_simp; (try with_reducible rfl))
  (try simp only [Act.put, List.setIfInBounds_toArray, List.set_cons_zero, List.set_cons_succ])
  refine wpAnyH_ready (rs := [6]) (by kernel_rfl) (by simp) ?_
  refine AllReadyH.cons (o := { dst := none, op := Op.store 126 (Operand.tmp 14) (Operand.tmp 12), type := 0, pos := "sha.go:139", after := #[{ on := 5, ground := Ground.data }, { on := 3, ground := Ground.data }, { on := 1, ground := Ground.chain }, { on := 0, ground := Ground.phase }, { on := 1, ground := Ground.phase }, { on := 2, ground := Ground.phase }, { on := 3, ground := Ground.phase }], guard := none }) rfl (fun K hK => ?_) ?_
  rw [if_pos (by rfl)]; refine wp_store_mid _ _ _ rfl g 4 (curA.toList.take 74).toArray rfl rfl (tag_there (heap_keep HG3.out BA.out) (by rw [List.size_toArray, hs_len SA.out.sz]; omega)) (hs_infoA SA.out.sz) (hs_one SA.out) ?_
  refine hK.out _ _ ((World.cell?_setCells_out _ _ _ _ _ (fun e _ => absurd e hPg.out)).trans hHeld) (fun hHeld => ?_)
  clear hK K
  (try simp only [List.setIfInBounds_toArray, List.set_cons_zero, List.set_cons_succ])
  refine wpAnyH_done (by kernel_rfl) ?_ _
  rotate_left
  exact AllReadyH.nil
  exact AllReadyH.nil
  exact AllReadyH.nil
  rw [List.toList_toArray]
  have HG5 := hid (heap_setCells (curA.toList.take 74) 4 _ _ (heap_keep HG3.out BA.out))
  have F5 := hid (((Far.of (H := g) B3.out).trans (Far.of BA.out)).trans (far_setCells (curA.toList.take 74) 4 wA))
  have M5 := hid (hs_moved SA.out (o := 4) (cur := cur) (by omega))
  have KD5 := hid (heap_far (heap_keep KD.out BA.out) (far_setCells (g := g) (curA.toList.take 74) 4 wA) (by omega))
  have HP5 := hid (far_cell' (cell_keep BA.out hP3.out) (far_setCells (g := g) (curA.toList.take 74) 4 wA) hPg.out)
  have hTA := hid ((HT3.out.below BA.out).far (far_setCells (g := g) (curA.toList.take 74) 4 wA) hg0 hg1)
  generalize setMs cur 4 (curA.toList.take 74) = cur5 at *
  generalize World.setCells wA g 4 (curA.toList.take 74) = w5 at *
  have hKg := hid (show K ≠ g by omega)
  clear HG3 BA HA SA lA hHeld KD hP3 HT3 B3
  go_wp2
  go_region_held3 (fun w' => w'.cell? ⟨P, 0, none⟩ = some (.pointer (some ⟨g, 0, none⟩))) (first | exact HP5.out | exact far_cell' HP5.out (Far.of ((Below.refl _ _).drew) |>.trans f6) hPg.out)
    ((go_at_call 60; refine (write_walk g 4 T cur5 H0 (List.replicate 64 0) 0 [] (some ⟨K, 0, none⟩) 32 32 D w5.drew HG5.out M5.out.1 (Took.start (by simp) (by simp)) (sl_arr KD5.out hdl) (aph_ne hKg.out) hdb.out (by decide) (hTA.out.below ((Below.refl _ _).drew)) hg0 hg1).mono ?_; rintro e w6 ⟨rfl, f6, cur6, S6, R6, k6, g6, o6, a6, t6⟩))
  have F6 := hid ((Far.of (H := g) ((Below.refl w5.heap.size w5).drew)).trans f6)
  have HG6 := hid g6
  have A6 := hid a6
  have O6 := hid (M5.out.2.trans o6)
  have T6 := hid t6
  have hP6 := hid (far_cell' HP5.out F6.out hPg.out)
  have KD6 := hid (heap_far KD5.out F6.out hKg.out)
  have hT6 := hid (hTA.out.far F6.out hg0 hg1)
  have F56 := hid (F5.out.trans F6.out)
  clear HG5 M5 KD5 HP5 hTA F5 f6 g6 o6 a6 t6 F6
  go_wp2
  go_region_held3 (fun w' => w'.cell? ⟨P, 0, none⟩ = some (.pointer (some ⟨g, 0, none⟩))) (first | exact hP6.out | exact far_cell' hP6.out (Far.of ((Below.refl _ _).drew) |>.trans f7) hPg.out)
    ((go_at_call 60; refine (write_walk g 4 T cur6 S6 R6 k6 D (some ⟨K, 0, none⟩) 32 32 D w6.drew HG6.out (by have := A6.out; simpa using this) (by have := T6.out; simpa using this) (sl_arr KD6.out hdl) (aph_ne hKg.out) hdb.out (by omega) (hT6.out.below ((Below.refl _ _).drew)) hg0 hg1).mono ?_; rintro e w7 ⟨rfl, f7, cur7, S7, R7, k7, g7, o7, a7, t7⟩))
  have F7 := hid (F56.out.trans ((Far.of (H := g) ((Below.refl w6.heap.size w6).drew)).trans f7))
  have HG7 := hid g7
  have A7 := hid a7
  have O7 := hid (O6.out.trans o7)
  have T7 := hid t7
  clear f7 g7 o7 a7 t7
  go_wp2
  first | go_end0 | skip
  refine ⟨rfl, F7.out, cur7, S7, R7, k7, HG7.out, O7.out, ?_, ?_⟩
  · rw [hTH]; exact A7.out
  · rw [hTH]; exact T7.out
theorem HsAt.setLow {cur : Array Value} {ho j : Nat} {S R : List Nat} {k n : Nat} (h : HsAt cur ho S R k n) (hj : j < ho) (v : Value) : HsAt (cur.setIfInBounds j v) ho S R k n := by
  have hz := h.sz
  refine ⟨h.sl, h.rl, by simpa using h.sz, fun i hi => ?_, fun i hi => ?_, ?_, ?_⟩
  · rw [Array.getElem?_setIfInBounds_ne (by omega)]; exact h.s i hi
  · rw [Array.getElem?_setIfInBounds_ne (by omega)]; exact h.r i hi
  · rw [Array.getElem?_setIfInBounds_ne (by omega)]; exact h.k
  · rw [Array.getElem?_setIfInBounds_ne (by omega)]; exact h.n
theorem HsAt.setHi {cur : Array Value} {ho j : Nat} {S R : List Nat} {k n : Nat} (h : HsAt cur ho S R k n) (hj : ho + 74 ≤ j) (v : Value) : HsAt (cur.setIfInBounds j v) ho S R k n := by
  have hz := h.sz
  refine ⟨h.sl, h.rl, by simpa using h.sz, fun i hi => ?_, fun i hi => ?_, ?_, ?_⟩
  · rw [Array.getElem?_setIfInBounds_ne (by omega)]; exact h.s i hi
  · rw [Array.getElem?_setIfInBounds_ne (by omega)]; exact h.r i hi
  · rw [Array.getElem?_setIfInBounds_ne (by omega)]; exact h.k
  · rw [Array.getElem?_setIfInBounds_ne (by omega)]; exact h.n
theorem heap_setA {w : World} {g i : Nat} {cur : Array Value} {t : TypeId} (v : Value) (h : w.heap[g]? = some (.cells cur t (0, 0))) : (w.setCell ⟨g, i, none⟩ v).heap[g]? = some (.cells (cur.setIfInBounds i v) t (0, 0)) := by
  simp [World.setCell, Array.getElem?_modify, h]
theorem cellA {w : World} {g i : Nat} {cur : Array Value} {t : TypeId} {v : Value} (h : w.heap[g]? = some (.cells cur t (0, 0))) (hi : cur[i]? = some v) : w.cell? ⟨g, i, none⟩ = some v := by
  rw [cell_of_row _ g _ _ t (0, 0) h]; exact hi
theorem frozenA {w : World} {g i : Nat} {cur : Array Value} {t : TypeId} (h : w.heap[g]? = some (.cells cur t (0, 0))) : w.frozen? ⟨g, i, none⟩ = false := frozen_of_row _ _ _ _ _ h
/-- a tag whose head is made -/
structure TagMade (cur : Array Value) (s : ByteArray) (u : Nat) : Prop where
  sz : cur.size = 79
  nm : cur[0]? = some (.string s)
  dn : cur[1]? = some (.int .u32 1)
  fr : cur[2]? = some (.int .i32 0)
  us : cur[78]? = some (.int .i64 (u : Int))
  hd : ∃ S R k, HsAt cur 4 S R k (tagH s).length ∧ Took (tagH s) S R k
/-- one that is new -/
structure TagNew (cur : Array Value) (s : ByteArray) (u : Nat) : Prop where
  sz : cur.size = 79
  nm : cur[0]? = some (.string s)
  dn : cur[1]? = some (.int .u32 0)
  fr : cur[2]? = some (.int .i32 0)
  us : cur[78]? = some (.int .i64 (u : Int))
def OnceRes (w : World) (g : Nat) (T : TypeId) (s : ByteArray) (u : Nat) (e : Ending) (w' : World) : Prop := e = .returned (.tuple #[]) ∧ Far g w w' ∧ ∃ cur', w'.heap[g]? = some (.cells cur' T (0, 0)) ∧ TagMade cur' s u
set_option maxRecDepth 100000 in
set_option maxHeartbeats 4000000 in
theorem slow_walk (g P u : Nat) (T : TypeId) (s : ByteArray) (cur : Array Value) (w : World) (hs : s.size ≤ 1048576) (hP : w.cell? ⟨P, 0, none⟩ = some (.pointer (some ⟨g, 0, none⟩))) (hg : w.heap[g]? = some (.cells cur T (0, 0))) (hN : TagNew cur s u)
    (hPg : P ≠ g) (ht : Tabs w) (hg0 : g ≠ 1) (hg1 : g ≠ 2) : Calls Tryz.prog 74 #[.pointer (some ⟨g, 1, none⟩), .func (.func 57) #[] #[.pointer (some ⟨P, 0, none⟩)]] w (OnceRes w g T s u) := by
  have hz := hN.sz
  have H1 := hid (heap_setA (i := 2) (.int .i32 1) hg)
  have n0 : (cur.setIfInBounds 2 (.int .i32 1))[0]? = some (.string s) := by rw [Array.getElem?_setIfInBounds_ne (by omega)]; exact hN.nm
  have n1 : (cur.setIfInBounds 2 (.int .i32 1))[1]? = some (.int .u32 0) := by rw [Array.getElem?_setIfInBounds_ne (by omega)]; exact hN.dn
  have n2 : (cur.setIfInBounds 2 (.int .i32 1))[2]? = some (.int .i32 1) := by rw [Array.getElem?_setIfInBounds_self_of_lt (by omega)]
  have n78 : (cur.setIfInBounds 2 (.int .i32 1))[78]? = some (.int .i64 (u : Int)) := by rw [Array.getElem?_setIfInBounds_ne (by omega)]; exact hN.us
  have F1 := hid (Far.set (w := w) (H := g) (j := 2) (.int .i32 1))
  have HP := hid (far_cell' hP F1.out hPg)
  have HT := hid (ht.far F1.out hg0 hg1)
  have hlk := lock_free ⟨g, 2, none⟩ w (cellA hg hN.fr) (frozenA hg)
  have hz1 : (cur.setIfInBounds 2 (.int .i32 1)).size = 79 := by simp [hz]
  generalize w.setCell ⟨g, 2, none⟩ (.int .i32 1) = w1 at *
  generalize cur.setIfInBounds 2 (.int .i32 1) = cur1 at *
  have hl := run_call_load (P := Tryz.prog) Tryz.func82 (by kernel_rfl) (by kernel_rfl) (by kernel_rfl) .u32 (by kernel_rfl) (w := w1) (a := ⟨g, 1, none⟩) (x := 0) (cellA H1.out n1)
  have hnot : ∀ (x : Bool) (w : World), (Op.unary .not (.bool x)).run Tryz.prog w = .ok (.bool (!x)) w := fun _ _ => rfl
  have N := hid (And.intro n0 (And.intro n1 (And.intro n2 n78)))
  have hPg := hid hPg
  have HLK := hid hlk
  clear hN hg hP ht n0 n1 n2 n78 hlk
  go_enter_defers Tryz.func74, Tryz.ntmps74
  go_wp2_with (first | (go_at_call 83; refine HLK.out.mono ?_; rintro e w' ⟨rfl, rfl⟩) | (go_at_call 73; go_in) | (go_at_call 57; refine (clos_walk g P T s cur1 _ hs HP.out H1.out hz1 N.out.1 hPg.out HT.out hg0 hg1).mono ?_; rintro e w2 ⟨rfl, f2, cur2, S, R, k, g2, o2, a2, t2⟩))
  have O2 := hid o2
  have G2 := hid g2
  have F2 := hid (F1.out.trans f2)
  have A2 := hid (show ∃ S R k, HsAt cur2 4 S R k (tagH s).length ∧ Took (tagH s) S R k from ⟨S, R, k, a2, t2⟩)
  have z2 := hid (O2.out.1.trans hz1)
  have m0 := (O2.out.2 0 (by omega)).trans N.out.1
  have m1 := (O2.out.2 1 (by omega)).trans N.out.2.1
  have m2 := (O2.out.2 2 (by omega)).trans N.out.2.2.1
  have m78 := (O2.out.2 78 (by omega)).trans N.out.2.2.2
  clear f2 g2 o2 a2 t2 H1 F1 HP HT
  refine leaves_cons (f := 85) (args := #[.pointer (some ⟨g, 1, none⟩), .bool true]) (by simp) (by simp [go_sem]) ?_
  refine (store_deferred ⟨g, 1, none⟩ (.int .u32 0) .returning _ (cellA G2.out m1) (frozenA G2.out)).mono ?_
  rintro e u' w3 ⟨rfl, rfl, rfl⟩
  have G3 := hid (heap_setA (w := w2.drew) (i := 1) (.int .u32 1) G2.out)
  have F3 := hid ((F2.out.trans (Far.of (H := g) ((Below.refl w2.heap.size w2).drew))).trans (Far.set (w := w2.drew) (H := g) (j := 1) (.int .u32 1)))
  have q2 : (cur2.setIfInBounds 1 (.int .u32 1))[2]? = some (.int .i32 1) := by rw [Array.getElem?_setIfInBounds_ne (by omega)]; exact m2
  refine leaves_cons (f := 84) (args := #[.pointer (some ⟨g, 2, none⟩)]) (by simp [settle]) (by simp [go_sem]) ?_
  refine (unlock_deferred ⟨g, 2, none⟩ _ _ (cellA G3.out q2) (frozenA G3.out)).mono ?_
  rintro e u' w4 ⟨rfl, rfl, rfl⟩
  have G4 := hid (heap_setA (i := 2) (.int .i32 0) G3.out)
  have F4 := hid (F3.out.trans (Far.set (H := g) (j := 2) (.int .i32 0)))
  simp [Leaves, settle, results, Tryz.results74]
  refine ⟨rfl, F4.out, _, G4.out, ?_⟩
  obtain ⟨S', R', k', a, t⟩ := A2.out
  have hz2 := z2.out
  exact ⟨by simp [hz2], by rw [Array.getElem?_setIfInBounds_ne (by omega), Array.getElem?_setIfInBounds_ne (by omega)]; exact m0,
    by rw [Array.getElem?_setIfInBounds_ne (by omega), Array.getElem?_setIfInBounds_self_of_lt (by omega)],
    by rw [Array.getElem?_setIfInBounds_self_of_lt (by simp; omega)],
    by rw [Array.getElem?_setIfInBounds_ne (by omega), Array.getElem?_setIfInBounds_ne (by omega)]; exact m78,
    S', R', k', (a.setLow (by omega) _).setLow (by omega) _, t⟩
set_option maxRecDepth 100000 in
set_option maxHeartbeats 1600000 in
theorem do_walk (g P u : Nat) (T : TypeId) (s : ByteArray) (cur : Array Value) (w : World) (hs : s.size ≤ 1048576) (hP : w.cell? ⟨P, 0, none⟩ = some (.pointer (some ⟨g, 0, none⟩))) (hg : w.heap[g]? = some (.cells cur T (0, 0))) (hN : TagNew cur s u ∨ TagMade cur s u)
    (hPg : P ≠ g) (ht : Tabs w) (hg0 : g ≠ 1) (hg1 : g ≠ 2) : Calls Tryz.prog 56 #[.pointer (some ⟨g, 1, none⟩), .func (.func 57) #[] #[.pointer (some ⟨P, 0, none⟩)]] w (OnceRes w g T s u) := by
  have hnot : ∀ (x : Bool) (w : World), (Op.unary .not (.bool x)).run Tryz.prog w = .ok (.bool (!x)) w := fun _ _ => rfl
  rcases hN with hN | hN
  · have hl := run_call_load (P := Tryz.prog) Tryz.func82 (by kernel_rfl) (by kernel_rfl) (by kernel_rfl) .u32 (by kernel_rfl) (w := w) (a := ⟨g, 1, none⟩) (x := 0) (cellA hg hN.dn)
    have SL := hid (slow_walk g P u T s cur w hs hP hg hN hPg ht hg0 hg1)
    clear hN hg hP ht
    go_enter Tryz.func56, Tryz.ntmps56
    go_wp2_with (first | (go_at_call 73; go_in) | (go_at_call 74; refine SL.out.mono ?_; rintro e w2 ⟨rfl, f2, g2⟩))
    go_end0
    exact ⟨rfl, f2, g2⟩
  · have hl := run_call_load (P := Tryz.prog) Tryz.func82 (by kernel_rfl) (by kernel_rfl) (by kernel_rfl) .u32 (by kernel_rfl) (w := w) (a := ⟨g, 1, none⟩) (x := 1) (cellA hg hN.dn)
    have R := hid (show OnceRes w g T s u (.returned (.tuple #[])) w from ⟨rfl, Far.refl _ _, cur, hg, hN⟩)
    clear hN hg hP ht
    go_enter Tryz.func56, Tryz.ntmps56
    go_wp2
    go_end0
    exact R.out
theorem hs_copy {cur : Array Value} {ho : Nat} {S R : List Nat} {k n : Nat} (h : HsAt cur ho S R k n) : HsAt ((cur.toList.drop ho).take 74).toArray 0 S R k n := by
  have hz := h.sz
  have hg : ∀ j, j < 74 → ((cur.toList.drop ho).take 74).toArray[j]? = cur[ho + j]? := fun j hj => by
    rw [List.getElem?_toArray, List.getElem?_take, if_pos hj, List.getElem?_drop, Array.getElem?_toList]
  refine ⟨h.sl, h.rl, by simp; omega, fun i hi => ?_, fun i hi => ?_, ?_, ?_⟩
  · rw [Nat.zero_add, hg i (by omega)]; exact h.s i hi
  · rw [show 0 + 8 + i = 8 + i by omega, hg (8 + i) (by omega), ← Nat.add_assoc]; exact h.r i hi
  · rw [Nat.zero_add, hg 72 (by omega)]; exact h.k
  · rw [Nat.zero_add, hg 73 (by omega)]; exact h.n
theorem hs_cut {cur : Array Value} {ho : Nat} (h : ho + 74 ≤ cur.size) : ((cur.toList.drop ho).take 74).length = 74 := by simp; omega
theorem hs_rangeO {w : World} {g ho : Nat} {cur : Array Value} {T : TypeId} (h : w.heap[g]? = some (.cells cur T (0, 0))) : w.rangeAt g ho ((cur.toList.drop ho).take 74) := fun j v hj => by
  rw [cell_of_row _ g _ _ T (0, 0) h]
  rw [List.getElem?_take] at hj
  split at hj
  · rw [← Array.getElem?_toList, ← List.getElem?_drop]; exact hj
  · cases hj
theorem hs_one' {cur : Array Value} {ho : Nat} {S R : List Nat} {k n : Nat} (h : HsAt cur ho S R k n) : ((cur.toList.drop ho).take 74).toArray.all (·.oneCell') = true := by
  have := hs_one (hs_copy h)
  rwa [List.toList_toArray, List.take_take, Nat.min_self] at this
def TSumRes (w : World) (g : Nat) (T : TypeId) (s : ByteArray) (u : Nat) (all : List Nat) (e : Ending) (w' : World) : Prop := e = .returned (hv (sha (tagH s ++ all))) ∧ Far g w w' ∧ ∃ cur', w'.heap[g]? = some (.cells cur' T (0, 0)) ∧ TagMade cur' s (u + 1)
theorem tagH_len (s : ByteArray) : (tagH s).length = 64 := by simp [tagH, sha_len]
set_option maxRecDepth 100000 in
set_option maxHeartbeats 4000000 in
theorem tsum_walk (g u : Nat) (T : TypeId) (s : ByteArray) (cur : Array Value) (a : Option Addr) (n cap : Nat) (ls : List BS) (w : World) (hs : s.size ≤ 1048576) (hg : w.heap[g]? = some (.cells cur T (0, 0))) (hN : TagNew cur s u ∨ TagMade cur s u)
    (hpf : ∀ w', Far g w w' → Parts w' a n cap ls) (hlen : (flat ls).length < 1152921504606846976) (hu : u < 4611686018427387904) (ht : Tabs w) (hg0 : g ≠ 1) (hg1 : g ≠ 2) :
    Calls Tryz.prog 42 #[.pointer (some ⟨g, 0, none⟩), .slice a n cap] w (TSumRes w g T s u (flat ls)) := by
  have hmf : ∀ (fn : Fn) (first cap : Array Value) (w : World), (Instr.makeFunc fn first cap).run Tryz.prog w = .ok (.func fn first cap) w := fun _ _ _ _ => rfl
  have HPF := hid hpf
  have hgl := (Array.getElem?_eq_some_iff.1 hg).1
  have A2 := fun z => alloc2p w (.cells #[.pointer (some ⟨g, 0, none⟩)] 92) (.cells z 62)
  have HG := hid hg
  have HN := hid hN
  have HT := hid ht
  clear hpf hg hN ht
  go_enter Tryz.func42, Tryz.ntmps42
  go_wp2_with fail
  generalize hW : World.alloc (World.alloc w _) _ = W0
  replace A2 : ∃ z : Array Value, z.size = 32 ∧ W0.heap[w.heap.size]? = some (.cells #[.pointer (some ⟨g, 0, none⟩)] 92 (0, 0)) ∧ W0.heap[w.heap.size + 1]? = some (.cells z 62 (0, 0)) ∧ Below w.heap.size w W0 := ⟨_, by rfl, hW ▸ (A2 _).1, hW ▸ (A2 _).2.1, hW ▸ (A2 _).2.2.2⟩
  obtain ⟨z, hz, gP, gZ, b0⟩ := A2
  have cP : W0.cell? ⟨w.heap.size, 0, none⟩ = some (.pointer (some ⟨g, 0, none⟩)) := cellA gP rfl
  have HZ := hid gZ
  have hz0 := hid hz
  have B0 := hid b0
  have hPl : w.heap.size + 1 < W0.heap.size := (Array.getElem?_eq_some_iff.1 gZ).1
  generalize hP : w.heap.size = P at *
  have hPg : P ≠ g := by omega
  have hZg := hid (show P + 1 ≠ g by omega)
  have F0 := hid (show Far g w W0 from Far.of (hP ▸ B0.out))
  have hG0 : W0.heap[g]? = some (.cells cur T (0, 0)) := heap_keep HG.out (hP ▸ B0.out)
  have HT0 := HT.out.below (hP ▸ B0.out)
  clear hW gP gZ b0 hz
  refine (do_walk g P u T s cur W0 hs cP hG0 HN.out hPg HT0 hg0 hg1).mono ?_
  rintro e w1 ⟨rfl, f1, cur1, g1, m1⟩
  have F1 := hid (F0.out.trans f1)
  have G1 := hid g1
  have M1 := hid m1
  have c1 := hid (far_cell' cP f1 hPg)
  have Z1 := hid (heap_far HZ.out f1 hZg.out)
  have T1 := hid (HT0.far f1 hg0 hg1)
  obtain ⟨u1, hu1'⟩ : ∃ u1 : Nat, u1 = u + 1 := ⟨_, rfl⟩
  have hu1 := hid hu1'
  have AD := hid (addI_walk ⟨g, 78, none⟩ u 1 (u1 : Int) w1 (cellA g1 m1.us) (frozenA g1) (by rw [IntWalk.i64_in _ (by omega)]; omega))
  clear hu1'
  have hs1 : W0.heap.size ≤ w1.heap.size := f1.size
  clear cP hG0 HT0 f1 g1 m1 HZ HN
  have cP := c1.out
  have G2 := hid (heap_setA (i := 78) (.int .i64 (u1 : Int)) G1.out)
  have F2 := hid (F1.out.trans (Far.set (w := w1) (H := g) (j := 78) (.int .i64 (u1 : Int))))
  have c2 := hid (far_cell' c1.out (Far.set (w := w1) (H := g) (j := 78) (.int .i64 (u1 : Int))) hPg)
  have Z2 := hid (heap_far Z1.out (Far.set (w := w1) (H := g) (j := 78) (.int .i64 (u1 : Int))) hZg.out)
  have T2 := hid (T1.out.far (Far.set (w := w1) (H := g) (j := 78) (.int .i64 (u1 : Int))) hg0 hg1)
  have M2 := hid (show TagMade (cur1.setIfInBounds 78 (.int .i64 (u1 : Int))) s u1 by
    have hz1 := M1.out.sz
    obtain ⟨S, R, k, a, t⟩ := M1.out.hd
    exact ⟨by simp [hz1], by rw [Array.getElem?_setIfInBounds_ne (by omega)]; exact M1.out.nm, by rw [Array.getElem?_setIfInBounds_ne (by omega)]; exact M1.out.dn, by rw [Array.getElem?_setIfInBounds_ne (by omega)]; exact M1.out.fr,
      by rw [Array.getElem?_setIfInBounds_self_of_lt (by omega)], S, R, k, a.setHi (by omega) _, t⟩)
  have hs2 : W0.heap.size ≤ (w1.setCell ⟨g, 78, none⟩ (.int .i64 (u1 : Int))).heap.size := by simpa using hs1
  have cP1 := c1.out
  clear T1 Z1 c1 F1 G1 M1 cP hs1
  have cP := c2.out
  go_upto_region 5 with (first | (go_at_call 61; refine AD.out.mono ?_; rintro e w2 ⟨rfl, rfl⟩))
  generalize w1.setCell ⟨g, 78, none⟩ (.int .i64 (u1 : Int)) = w2 at *
  generalize cur1.setIfInBounds 78 (.int .i64 (u1 : Int)) = cur2 at *
  clear AD
  obtain ⟨S, R, k, a2, t2⟩ := M2.out.hd
  have hlc := hid (hs_cut a2.sz)
  have hiC : (Tryz.prog.info? 126).map (·.size) = some ((cur2.toList.drop 4).take 74).length := by rw [hlc.out]; exact infoHs
  have hiC' : (Tryz.prog.info? 126).map (·.size) = some ((cur2.toList.drop 4).take 74).toArray.size := by rw [List.size_toArray]; exact hiC
  have hzC : Tryz.zeroCells126.size = ((cur2.toList.drop 4).take 74).toArray.size := z51_size.trans (by rw [List.size_toArray, hlc.out])
  have hoC := hid (hs_one' a2)
  have A3 := hid (hs_copy a2)
  have T3 := hid t2
  have R2 := hid (hs_rangeO (ho := 4) G2.out)
  clear a2 t2
  go_upto_region 6 with (first | refine wpList_load_mid rfl _ _ rfl g 4 rfl ((cur2.toList.drop 4).take 74) _ R2.out Tryz.underlying126 rfl hiC ?_ | refine wpList_store_row rfl _ _ _ rfl w2.heap.size ((cur2.toList.drop 4).take 74).toArray rfl rfl _ _ (heap_alloc_new w2 _) hiC' hzC hoC.out ?_)
  have L3 := laid w2 Tryz.zeroCells126 ((cur2.toList.drop 4).take 74).toArray 126
  have H3 := hid L3.1
  have B3 := hid L3.2
  have hZ3 := hid (heap_keep Z2.out L3.2)
  clear L3
  generalize (w2.alloc (Obj.cells Tryz.zeroCells126 126)).setRow w2.heap.size ((cur2.toList.drop 4).take 74).toArray = w3 at *
  have HI := hid (HPF.out w2 F2.out)
  have HL := hid HI.out.2.1
  have hH0 := hid (show w2.heap.size ≠ 1 by have := World.block_lt_of_cell? w2 _ (T2.out.1 0 (by decide)); simp at this; omega)
  have hH1 := hid (show w2.heap.size ≠ 2 by have := World.block_lt_of_cell? w2 _ (T2.out.2 0 (by decide)); simp at this; omega)
  have hgH := hid (show g ≠ w2.heap.size by have := (Array.getElem?_eq_some_iff.1 G2.out).1; omega)
  have hZH := hid (show P + 1 ≠ w2.heap.size by have := (Array.getElem?_eq_some_iff.1 Z2.out).1; omega)
  have hnb := Nat.le_trans HI.out.1.2.1 HI.out.1.2.2.1
  unfold maxLen at hnb
  have tH := tagH_len s
  generalize hHe : w2.heap.size = H at *
  have HHe := hid hHe
  clear cP hiC hiC' hzC R2 Z2 c2 hs2 hHe
  go_wp2
  go_loopw [26] (fun x0 wr => ∃ i : Nat, i ≤ n ∧ x0 = .int .i64 i ∧ Far H w3 wr ∧ ∃ cur S R k, wr.heap[H]? = some (.cells cur 126 (0, 0)) ∧ HsAt cur 0 S R k (tagH s ++ flat (ls.take i)).length ∧ Took (tagH s ++ flat (ls.take i)) S R k) (fun x0 _ => n - (intOf x0).toNat)
  case atStart =>
    refine ⟨0, by omega, rfl, Far.refl _ _, _, S, R, k, H3.out, ?_, ?_⟩
    · simpa [flat] using A3.out
    · simpa [flat] using T3.out
  case round =>
    obtain ⟨i, hi, rfl, hf, cur', S', R', k', hh, hA, hTk⟩ := hrel
    have HF := hid hf
    have HH := hid hh
    have HA := hid hA
    have HTK := hid hTk
    have BEL := hid (show Below w2.heap.size w2 wr by rw [HHe.out]; exact B3.out.trans (hf.below (Nat.le_refl _) (by have := B3.out.size; have := HHe.out; omega)))
    have HTr := hid (T2.out.below BEL.out)
    clear hf hh hA hTk
    by_cases hlt : i < n
    · obtain ⟨l, hl⟩ := bget_some HL.out hlt
      obtain ⟨b, off, rfl, c1, gd⟩ := (HI.out.below BEL.out).cells hl
      have gd0 := HI.out.2.2 l (List.mem_of_getElem? hl)
      have HAP := hid (ApH.old gd0.1 (show w2.heap.size ≤ H by rw [HHe.out]; exact Nat.le_refl _))
      have HGD := hid gd
      have HE := hid (flat_take_succ hl)
      have hle := flat_take_le ls (i + 1)
      rw [HE.out, List.length_append] at hle
      clear gd gd0 hl
      go_wp2_with fail
      refine (write_walk H 0 _ cur' S' R' k' (tagH s ++ flat (ls.take i)) l.a l.v.length l.c l.v _ HH.out HA.out HTK.out HGD.out.1 HAP.out HGD.out.2.1 (by rw [List.length_append]; omega) HTr.out hH0.out hH1.out).mono ?_
      rintro e wA ⟨rfl, fA, cur', S', R', k', hh', _, hA', hTk'⟩
      rw [List.append_assoc, ← HE.out] at hA' hTk'
      have FA := hid (HF.out.trans fA)
      have H1 := hid hh'
      have H2 := hid hA'
      have H3 := hid hTk'
      clear hh' hA' hTk' fA c1 hle
      go_wp2
      go_roundw
      case rel => exact ⟨i + 1, by omega, by go_num, FA.out, cur', S', R', k', H1.out, H2.out, H3.out⟩
      case measure => simp [intOf]; omega
    · have hge : n ≤ i := by omega
      have et : ls.take i = ls := List.take_of_length_le (by rw [HL.out]; exact hge)
      rw [et] at HA HTK
      have hZr := hid (heap_far hZ3.out HF.out hZH.out)
      have hGr := hid (heap_far (heap_keep G2.out (by rw [HHe.out]; exact B3.out)) HF.out hgH.out)
      have hFr := hid (F2.out.trans (Far.of (H := g) BEL.out))
      clear et
      go_wp2_with fail
      refine (hsum_walk H 0 _ cur' S' R' k' (tagH s ++ flat ls) _ HH.out HA.out HTK.out (by rw [List.length_append]; omega) HTr.out).mono ?_
      rintro e wA ⟨rfl, bA⟩
      have hZA := hid (heap_keep hZr.out bA)
      have hGA := hid (heap_keep hGr.out bA)
      have hFA := hid (hFr.out.trans (Far.of (H := g) bA))
      have hiH : (Tryz.prog.info? 62).map (·.size) = some (nums .u8 (sha (tagH s ++ flat ls))).toArray.size := by rw [List.size_toArray, nums_length, sha_len]; exact infoH
      have h32 : z.size = (nums .u8 (sha (tagH s ++ flat ls))).toArray.size := by rw [hz0.out]; simp [sha_len]
      have h1c := hid (all_oneCell_toArray (nums_oneCell .u8 (sha (tagH s ++ flat ls))))
      clear bA
      unfold hv
      generalize hcs : (nums .u8 (sha (tagH s ++ flat ls))).toArray = cs at *
      have HCS := hid hcs
      clear hcs
      go_wp2_with (refine wpList_store_row rfl _ _ _ rfl (P + 1) cs rfl rfl _ _ hZA.out hiH h32 h1c.out ?_)
      (try simp only [Exit.inBlock, Exit.then])
      refine bodyPost_ret (results_cell_row rfl _ _ (P + 1) _ cs _ _ rfl (setRow_heap wA (P + 1) _ cs _ _ hZA.out) Tryz.underlying62 rfl hiH) rfl ?_
      have hu1' := hu1.out
      subst hu1'
      refine ⟨by rw [hv, HCS.out], ?_, cur2, (setRow_other _ _ _ _ (Ne.symm hZg.out)).trans hGA.out, M2.out⟩
      exact hFA.out.newer (far_row wA (P + 1) cs) (by omega)
end Go.Proofs.YtnophelfpoldfaaGreatDoor

/- Tags: a new one; how often it was used. -/
namespace Go.Proofs.YtnophelfpoldfaaGreatDoor
open Go.RowKit

noncomputable def tagC (s : ByteArray) : Array Value := Tryz.zeroCells131.setIfInBounds 0 (.string s)
theorem tagZ_size : Tryz.zeroCells131.size = 79 := by kernel_rfl
theorem tagC_new (s : ByteArray) : TagNew (tagC s) s 0 where
  sz := by unfold tagC; rw [Array.size_setIfInBounds]; exact tagZ_size
  nm := by unfold tagC; rw [Array.getElem?_setIfInBounds_self_of_lt (by rw [tagZ_size]; decide)]
  dn := by unfold tagC; rw [Array.getElem?_setIfInBounds_ne (by decide)]; kernel_rfl
  fr := by unfold tagC; rw [Array.getElem?_setIfInBounds_ne (by decide)]; kernel_rfl
  us := by unfold tagC; rw [Array.getElem?_setIfInBounds_ne (by decide)]; kernel_rfl
theorem built_tag (s : ByteArray) : Tryz.prog.built 131 [(0, .string s)] = some (tagC s) := by kernel_rfl
theorem wpList_build1 {P : Program} {ops : Array Oper} {rest : List Oper} {o : Oper} {a : Act} {w : World} {Q : Exit → Act → World → Prop} (hg : o.guard = none) (t : TypeId) (x : Operand) (ho : o.op = .build t #[(0, x)])
    {v0 : Value} {cells : Array Value} (hb : P.built t [(0, v0)] = some cells) (hx : a.eval x = v0)
    (h : wpList P ops Q rest (a.put o.dst (.agg cells)) w) : wpList P ops Q (o :: rest) a w := by
  have hv : ((#[(0, x)] : Array (Nat × Operand)).map fun (i, x) => (i, a.eval x)).toList = [(0, v0)] := by simp [hx]
  exact wpList_build hg t _ ho (by rw [hv, hb]; rfl) (by rw [hv, hb]; exact h)
def NewTRes (w : World) (s : ByteArray) (e : Ending) (w' : World) : Prop := ∃ g cur, e = .returned (.pointer (some ⟨g, 0, none⟩)) ∧ w.heap.size ≤ g ∧ w'.heap[g]? = some (.cells cur 131 (0, 0)) ∧ TagNew cur s 0 ∧ Below w.heap.size w w'
set_option maxRecDepth 100000 in
theorem newtag_walk (s : ByteArray) (w : World) : Calls Tryz.prog 41 #[.string s] w (NewTRes w s) := by
  have N := hid (tagC_new s)
  have B := hid (built_tag s)
  generalize tagC s = C at *
  go_enter Tryz.func41, Tryz.ntmps41
  go_wp2_with (refine wpList_build1 rfl _ _ rfl B.out rfl ?_)
  go_ret
  exact ⟨w.heap.size, C, rfl, Nat.le_refl _, heap_alloc_new w _, N.out, (Below.refl _ _).alloc (Nat.le_refl _) _⟩
end Go.Proofs.YtnophelfpoldfaaGreatDoor
