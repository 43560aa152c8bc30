/- What a journal is. -/
import Derived.Test.YtllckpcggmfmkaaDoorJrd
namespace Go.Proofs.YtllckpcggmfmkaaDoor
open Go.RowKit

def jcells (db half next turn : Nat) (chk : List Nat) (sv rv : Value) (dead : Bool) : List Value :=
  [.pointer (some ⟨db, 0, none⟩), .int .i64 (half : Int), .int .i64 (next : Int), .int .u64 (turn : Int)] ++ (nums .u8 chk ++ [sv, rv, .bool dead])
theorem jc_len {db half next turn : Nat} {chk : List Nat} {sv rv : Value} {dead : Bool} (h : chk.length = 32) : (jcells db half next turn chk sv rv dead).length = 39 := by
  simp [jcells, h]
theorem jc_tail {db half next turn : Nat} {chk : List Nat} {sv rv : Value} {dead : Bool} (h : chk.length = 32) (k : Nat) : (jcells db half next turn chk sv rv dead)[36 + k]? = [sv, rv, Value.bool dead][k]? := by
  unfold jcells
  rw [List.getElem?_append_right (by simp; omega), List.getElem?_append_right (by simp [h]; omega)]
  congr 1
  simp [h]; omega
theorem jc_set36 {db half next turn : Nat} {chk : List Nat} {sv rv : Value} {dead : Bool} (h : chk.length = 32) (v : Value) : (jcells db half next turn chk sv rv dead).set 36 v = jcells db half next turn chk v rv dead := by
  unfold jcells
  rw [List.set_append_right _ _ (by simp), List.set_append_right _ _ (by simp [h])]
  simp [h]
theorem jc_set37 {db half next turn : Nat} {chk : List Nat} {sv rv : Value} {dead : Bool} (h : chk.length = 32) (v : Value) : (jcells db half next turn chk sv rv dead).set 37 v = jcells db half next turn chk sv v dead := by
  unfold jcells
  rw [List.set_append_right _ _ (by simp), List.set_append_right _ _ (by simp [h])]
  simp [h]
theorem jc_set38 {db half next turn : Nat} {chk : List Nat} {sv rv : Value} {dead : Bool} (h : chk.length = 32) (v : Bool) : (jcells db half next turn chk sv rv dead).set 38 (.bool v) = jcells db half next turn chk sv rv v := by
  unfold jcells
  rw [List.set_append_right _ _ (by simp), List.set_append_right _ _ (by simp [h])]
  simp [h]
/-- block jb is a journal's struct -/
structure JB (w : World) (jb db half next turn : Nat) (chk : List Nat) (sv rv : Value) (dead : Bool) : Prop where
  cell : w.heap[jb]? = some (.cells (jcells db half next turn chk sv rv dead).toArray 64 (0, 0))
  l32 : chk.length = 32
section
variable {w w' : World} {jb db half next turn : Nat} {chk : List Nat} {sv rv : Value} {dead : Bool}
theorem JB.c0 (h : JB w jb db half next turn chk sv rv dead) : w.cell? ⟨jb, 0, none⟩ = some (.pointer (some ⟨db, 0, none⟩)) := gen_cell (j := 0) (row_range h.cell) rfl
theorem JB.c1 (h : JB w jb db half next turn chk sv rv dead) : w.cell? ⟨jb, 1, none⟩ = some (.int .i64 (half : Int)) := gen_cell (j := 1) (row_range h.cell) rfl
theorem JB.c2 (h : JB w jb db half next turn chk sv rv dead) : w.cell? ⟨jb, 2, none⟩ = some (.int .i64 (next : Int)) := gen_cell (j := 2) (row_range h.cell) rfl
theorem JB.c3 (h : JB w jb db half next turn chk sv rv dead) : w.cell? ⟨jb, 3, none⟩ = some (.int .u64 (turn : Int)) := gen_cell (j := 3) (row_range h.cell) rfl
theorem JB.c36 (h : JB w jb db half next turn chk sv rv dead) : w.cell? ⟨jb, 36, none⟩ = some sv := gen_cell (j := 36) (row_range h.cell) (jc_tail h.l32 0)
theorem JB.c37 (h : JB w jb db half next turn chk sv rv dead) : w.cell? ⟨jb, 37, none⟩ = some rv := gen_cell (j := 37) (row_range h.cell) (jc_tail h.l32 1)
theorem JB.c38 (h : JB w jb db half next turn chk sv rv dead) : w.cell? ⟨jb, 38, none⟩ = some (.bool dead) := gen_cell (j := 38) (row_range h.cell) (jc_tail h.l32 2)
theorem JB.rng (h : JB w jb db half next turn chk sv rv dead) : w.rangeAt jb 4 (nums .u8 chk) := by
  have := gen_range (row_range h.cell) 4 32
  have e : ((jcells db half next turn chk sv rv dead).drop 4).take 32 = nums .u8 chk := by
    unfold jcells
    rw [List.drop_append_of_le_length (by simp), show List.drop 4 [Value.pointer (some ⟨db, 0, none⟩), Value.int .i64 (half : Int), Value.int .i64 (next : Int), Value.int .u64 (turn : Int)] = [] from rfl, List.nil_append, List.take_left' (by rw [nums_length, h.l32])]
  rwa [e] at this
theorem JB.fz (h : JB w jb db half next turn chk sv rv dead) (k : Nat) : w.frozen? ⟨jb, k, none⟩ = false := frozen_of_row _ _ _ _ _ h.cell
theorem JB.lt (h : JB w jb db half next turn chk sv rv dead) : jb < w.heap.size := (Array.getElem?_eq_some_iff.1 h.cell).1
theorem JB.noBy (h : JB w jb db half next turn chk sv rv dead) : NoBy w jb := by
  intro cur hc
  rw [h.cell] at hc
  simp only [Option.some.injEq, Obj.cells.injEq] at hc
  exact absurd hc.2.1 (by decide)
theorem JB.keep {S : Nat → Prop} (h : JB w jb db half next turn chk sv rv dead) (k : Keep S w w') (hn : ¬ S jb) : JB w' jb db half next turn chk sv rv dead := ⟨k.heap h.cell hn, h.l32⟩
theorem JB.below (h : JB w jb db half next turn chk sv rv dead) (b : Below w.heap.size w w') : JB w' jb db half next turn chk sv rv dead := ⟨heap_keep h.cell b, h.l32⟩
theorem JB.there (h : JB w jb db half next turn chk sv rv dead) : w.there jb 4 32 := tag_there h.cell (by rw [List.size_toArray, jc_len h.l32]; decide)
/-- stores into its fields -/
theorem JB.set2 (h : JB w jb db half next turn chk sv rv dead) (n : Nat) {K : Act → World → Prop} {A : Act} (hk : ∀ W', Hid (JB W' jb db half n turn chk sv rv dead) → Hid (Far jb w W') → K A W') : K A (w.setCell ⟨jb, 2, none⟩ (.int .i64 (n : Int))) := setW h.cell fun W' h1 f1 => hk W' (hid ⟨h1.out, h.l32⟩) f1
theorem JB.set1 (h : JB w jb db half next turn chk sv rv dead) (n : Nat) {K : Act → World → Prop} {A : Act} (hk : ∀ W', Hid (JB W' jb db n next turn chk sv rv dead) → Hid (Far jb w W') → K A W') : K A (w.setCell ⟨jb, 1, none⟩ (.int .i64 (n : Int))) := setW h.cell fun W' h1 f1 => hk W' (hid ⟨h1.out, h.l32⟩) f1
theorem JB.set3 (h : JB w jb db half next turn chk sv rv dead) (n : Nat) {K : Act → World → Prop} {A : Act} (hk : ∀ W', Hid (JB W' jb db half next n chk sv rv dead) → Hid (Far jb w W') → K A W') : K A (w.setCell ⟨jb, 3, none⟩ (.int .u64 (n : Int))) := setW h.cell fun W' h1 f1 => hk W' (hid ⟨h1.out, h.l32⟩) f1
theorem JB.set36 (h : JB w jb db half next turn chk sv rv dead) (v : Value) {K : Act → World → Prop} {A : Act} (hk : ∀ W', Hid (JB W' jb db half next turn chk v rv dead) → Hid (Far jb w W') → K A W') : K A (w.setCell ⟨jb, 36, none⟩ v) := setW h.cell fun W' h1 f1 => hk W' (hid ⟨by rw [← jc_set36 h.l32 (sv := sv)]; exact h1.out, h.l32⟩) f1
theorem JB.set37 (h : JB w jb db half next turn chk sv rv dead) (v : Value) {K : Act → World → Prop} {A : Act} (hk : ∀ W', Hid (JB W' jb db half next turn chk sv v dead) → Hid (Far jb w W') → K A W') : K A (w.setCell ⟨jb, 37, none⟩ v) := setW h.cell fun W' h1 f1 => hk W' (hid ⟨by rw [← jc_set37 h.l32 (rv := rv)]; exact h1.out, h.l32⟩) f1
theorem JB.set38 (h : JB w jb db half next turn chk sv rv dead) (v : Bool) {K : Act → World → Prop} {A : Act} (hk : ∀ W', Hid (JB W' jb db half next turn chk sv rv v) → Hid (Far jb w W') → K A W') : K A (w.setCell ⟨jb, 38, none⟩ (.bool v)) := setW h.cell fun W' h1 f1 => hk W' (hid ⟨by rw [← jc_set38 h.l32 (dead := dead)]; exact h1.out, h.l32⟩) f1
theorem JB.setC (h : JB w jb db half next turn chk sv rv dead) (c : List Nat) (hc : c.length = 32) {K : Act → World → Prop} {A : Act} (hk : ∀ W', Hid (JB W' jb db half next turn c sv rv dead) → Hid (Far jb w W') → K A W') : K A (w.setCells jb 4 (nums .u8 c)) := by
  refine hk _ (hid ⟨?_, hc⟩) (hid (far_setCells _ _ _))
  rw [heap_setCells (nums .u8 c) 4 w _ h.cell]
  congr 2
  apply Array.ext'
  apply List.ext_getElem?
  intro j
  have hl : 4 + (nums .u8 c).length ≤ (jcells db half next turn chk sv rv dead).toArray.size := by rw [List.size_toArray, jc_len h.l32, nums_length, hc]; decide
  have := setMs_get (nums .u8 c) 4 (jcells db half next turn chk sv rv dead).toArray j hl
  rw [Array.getElem?_toList, this, nums_length, hc]
  split
  · rename_i hj
    rw [List.toList_toArray]
    unfold jcells
    rw [List.getElem?_append_right (by simp; omega), List.getElem?_append_left (by simp [hc]; omega)]
    rfl
  · rename_i hj
    rw [List.getElem?_toArray, List.toList_toArray]
    unfold jcells
    by_cases h4 : j < 4
    · rw [List.getElem?_append_left (by simp; omega), List.getElem?_append_left (by simp; omega)]
    · rw [List.getElem?_append_right (by simp; omega), List.getElem?_append_right (by simp [h.l32]; omega), List.getElem?_append_right (by simp; omega), List.getElem?_append_right (by simp [hc]; omega)]
      simp [h.l32, hc]
end
/-- records, each bytes -/
def Recs (w : World) (vs : List Value) (rs : List (List Nat)) : Prop := vs.length = rs.length ∧ ∀ (i : Nat) (v : Value) (r : List Nat), vs[i]? = some v → rs[i]? = some r → ByA w v r
theorem Recs.keep {S : Nat → Prop} {w w' : World} {vs : List Value} {rs : List (List Nat)} (h : Recs w vs rs) (k : Keep S w w') (hn : ∀ i, i < w.heap.size → S i → NoBy w i) : Recs w' vs rs := ⟨h.1, fun i v r hv hr => (h.2 i v r hv hr).keep k hn⟩
theorem Recs.nil (w : World) : Recs w [] [] := ⟨rfl, fun i v r h => by simp at h⟩
theorem Recs.snoc {w : World} {vs : List Value} {rs : List (List Nat)} (h : Recs w vs rs) {v : Value} {r : List Nat} (hv : ByA w v r) : Recs w (vs ++ [v]) (rs ++ [r]) := by
  refine ⟨by simp [h.1], fun i u s hu hs => ?_⟩
  by_cases hi : i < vs.length
  · rw [List.getElem?_append_left hi] at hu
    rw [List.getElem?_append_left (by have := h.1; omega)] at hs
    exact h.2 i u s hu hs
  · rw [List.getElem?_append_right (by omega)] at hu
    rw [List.getElem?_append_right (by have := h.1; omega), ← h.1] at hs
    have : i - vs.length = 0 := by have := (List.getElem?_eq_some_iff.1 hu).1; simp at this; omega
    rw [this] at hu hs
    simp at hu hs
    exact hu ▸ hs ▸ hv
/-- a journal on a disk -/
structure JourAt (w : World) (jb db B half next turn : Nat) (chk st : List Nat) (rv : Value) (rs : List (List Nat)) : Prop where
  ex : ∃ sv, JB w jb db half next turn chk sv rv false ∧ ByA w sv st
  c8 : ∀ d ∈ chk, d < 256
  row : ∃ vs, w.ownsRow B 23 1 rv rs.length vs ∧ Recs w vs rs
  lo : B ≤ jb
theorem rv_ne_jb {w : World} {jb db B half next turn : Nat} {chk : List Nat} {sv rv : Value} {dead : Bool} {n : Nat} {vs : List Value} (h : JB w jb db half next turn chk sv rv dead) (ho : w.ownsRow B 23 1 rv n vs) {g : Nat} (hg : rv.ownBlock = some g) : g ≠ jb := by
  intro e
  obtain ⟨cur, hc⟩ := own_obj ho hg
  rw [e, h.cell] at hc
  simp only [Option.some.injEq, Obj.cells.injEq] at hc
  exact absurd hc.2.1 (by decide)
theorem JourAt.keep {S : Nat → Prop} {w w' : World} {jb db B half next turn : Nat} {chk st : List Nat} {rv : Value} {rs : List (List Nat)} (h : JourAt w jb db B half next turn chk st rv rs) (k : Keep S w w') (hn : ∀ i, i < w.heap.size → S i → NoBy w i) (hj : ¬ S jb) (hr : ∀ g, rv.ownBlock = some g → ¬ S g) : JourAt w' jb db B half next turn chk st rv rs := by
  obtain ⟨sv, h1, h2⟩ := h.ex
  obtain ⟨vs, o1, o2⟩ := h.row
  exact ⟨⟨sv, h1.keep k hj, h2.keep k hn⟩, h.c8, ⟨vs, k.own o1 hr, o2.keep k hn⟩, h.lo⟩
theorem JourAt.below {w w' : World} {jb db B half next turn : Nat} {chk st : List Nat} {rv : Value} {rs : List (List Nat)} (h : JourAt w jb db B half next turn chk st rv rs) (b : Below w.heap.size w w') : JourAt w' jb db B half next turn chk st rv rs :=
  h.keep (Keep.of (S := fun _ => False) b) (fun _ _ h => h.elim) (fun h => h) (fun _ _ h => h)
/-- the records of a half, one behind the other -/
def ChainC (C : List (List Nat)) (half : Nat) : Nat → List Nat → List (List Nat) → Nat → List Nat → Prop
  | p, ah, [], p', ah' => readC C half p ah = none ∧ p' = p ∧ ah' = ah
  | p, ah, r :: rs, p', ah' => ∃ h t, readC C half p ah = some (r, h, t) ∧ ChainC C half t h rs p' ah'
end Go.Proofs.YtllckpcggmfmkaaDoor

/- The journal's load, at a half that has nothing. -/
namespace Go.Proofs.YtllckpcggmfmkaaDoor
open Go.RowKit

theorem readC_out {C : List (List Nat)} {half at' : Nat} {ah b h : List Nat} {t : Nat} (hr : readC C half at' ah = some (b, h, t)) : at' < C.length / 2 ∧ h = recH ah b ∧ at' < t ∧ t ≤ C.length / 2 := by
  unfold readC at hr
  split at hr
  · exact absurd hr (by simp)
  · dsimp only at hr
    split at hr
    · exact absurd hr (by simp)
    · split at hr
      · simp only [Option.some.injEq, Prod.mk.injEq] at hr
        obtain ⟨e1, e2, rfl⟩ := hr
        exact ⟨by omega, by rw [← e1]; exact e2.symm, by omega, by omega⟩
      · exact absurd hr (by simp)
theorem readC_len {C : List (List Nat)} {half at' : Nat} {ah b h : List Nat} {t : Nat} (hr : readC C half at' ah = some (b, h, t)) : h.length = 32 := by
  rw [(readC_out hr).2.1]; unfold recH; rw [sha_len]
def LoadNo (w : World) (e : Ending) (w' : World) : Prop := e = .returned (.tuple #[.pointer none, .bool false]) ∧ Below w.heap.size w w'
set_option maxRecDepth 100000 in
set_option maxHeartbeats 4000000 in
theorem jload_no {w : World} {db B : Nat} {sv : Value} {C : List (List Nat)} (h : DiskAt w db B sv (.slice none 0 0) C []) (half : Nat) (hh : half ≤ 1) (ht : Tabs w) (hno : ∀ b h t, readC C half 0 z32 = some (b, h, t) → b.length < 8) :
    Calls Tryd.prog 25 #[.pointer (some ⟨db, 0, none⟩), .int .i64 (half : Int)] w (LoadNo w) := by
  have H := hid h
  have HH := hid hh
  have HT := hid ht
  have NO := hid hno
  clear h hh ht hno
  have z8 : ∀ d ∈ z32, d < 256 := by decide
  have Z8 := hid z8
  clear z8
  go_enter Tryd.func25, Tryd.ntmps25
  go_wp2_with (fail)
  have bw := (Below.refl w.heap.size w).alloc (Nat.le_refl _) (.cells (jcells db half 0 0 z32 (.slice none 0 0) (.slice none 0 0) false).toArray 64)
  refine (jread_walk (H.out.below bw) half HH.out 0 (by decide) z32 rfl Z8.out (HT.out.below bw)).mono ?_
  rintro e w2 ⟨hr, b2⟩
  have B2 := hid (show Below w.heap.size w w2 from bw.trans (b2.mono bw.size))
  clear bw b2
  cases hc : readC C half 0 z32 with
  | none =>
    rw [hc] at hr
    subst hr
    clear hc
    have hiZ := hid (show (Tryd.prog.info? 62).map (·.size) = some (nums .u8 z32).toArray.size by kernel_rfl)
    have hz1 := hid (all_oneCell_toArray (nums_oneCell .u8 z32))
    go_wp2_with (refine wpList_store_row rfl _ _ _ rfl w2.heap.size (nums .u8 z32).toArray rfl rfl _ _ (heap_alloc_new _ _) hiZ.out rfl hz1.out ?_)
    go_ret2
    exact ⟨rfl, below_setRow (B2.out.alloc B2.out.size _) B2.out.size _⟩
  | some x =>
    obtain ⟨b, h, t⟩ := x
    rw [hc] at hr
    obtain ⟨v, rfl, hv, _⟩ := hr
    have lh := readC_len hc
    have hiZ := hid (show (Tryd.prog.info? 62).map (·.size) = some (nums .u8 h).toArray.size by rw [List.size_toArray, nums_length, lh]; kernel_rfl)
    have hz1 := hid (all_oneCell_toArray (nums_oneCell .u8 h))
    have hoZ := hid (show 32 = (nums .u8 h).toArray.size by rw [List.size_toArray, nums_length, lh])
    have L8 := NO.out b h t hc
    obtain ⟨a, n, c, rfl, hs, _⟩ := hv
    have hn : n < 8 := by rw [← hs.len]; exact L8
    have t1 : decide (n < 8) = true := decide_eq_true hn
    have t2 : decide ((n : Int) < 8) = true := decide_eq_true (by omega)
    clear hc hs L8 hn lh
    go_wp2_with (refine wpList_store_row rfl _ _ _ rfl w2.heap.size (nums .u8 h).toArray rfl rfl _ _ (heap_alloc_new _ _) hiZ.out hoZ.out hz1.out ?_)
    go_ret2
    exact ⟨rfl, below_setRow (B2.out.alloc B2.out.size _) B2.out.size _⟩
end Go.Proofs.YtllckpcggmfmkaaDoor

/- The journal, plain: what is laid is read again; a blank sector is no record. -/
namespace Go.Proofs.YtllckpcggmfmkaaDoor

theorem layB_get (C : List (List Nat)) (p : Nat) (b : List Nat) : ∀ K i, p + K ≤ C.length → (layB C p b K)[i]? = if p ≤ i ∧ i < p + K then some (chunk b (i - p)) else C[i]?
  | 0, i, h => by rw [if_neg (by omega)]; rfl
  | K + 1, i, h => by
    show ((layB C p b K).set (p + K) (chunk b K))[i]? = _
    rw [List.getElem?_set, layB_len, layB_get C p b K i (by omega)]
    by_cases e : p + K = i
    · rw [if_pos e, if_pos (by omega), if_pos (by omega)]
      congr 2; omega
    · rw [if_neg e]
      by_cases e2 : p ≤ i ∧ i < p + K
      · rw [if_pos e2, if_pos (by omega)]
      · rw [if_neg e2, if_neg (by omega)]
theorem layB_in {C : List (List Nat)} {p : Nat} {b : List Nat} {K i : Nat} (h : p + K ≤ C.length) (hi : i < K) : (layB C p b K)[p + i]? = some (chunk b i) := by
  rw [layB_get C p b K _ h, if_pos (by omega)]; congr 2; omega
theorem layB_out {C : List (List Nat)} {p : Nat} {b : List Nat} {K i : Nat} (h : p + K ≤ C.length) (hi : i < p ∨ p + K ≤ i) : (layB C p b K)[i]? = C[i]? := by
  rw [layB_get C p b K _ h, if_neg (by omega)]
theorem allC_lay {C : List (List Nat)} {p : Nat} {b : List Nat} {K : Nat} (h : p + K ≤ C.length) : ∀ m, m ≤ K → allC (layB C p b K) p m = b.take (64 * m)
  | 0, _ => by simp [allC]
  | m + 1, hm => by
    rw [allC_succ _ p m (layB_in h (by omega)), allC_lay h m (by omega), show 64 * (m + 1) = 64 * m + 64 by omega, List.take_add]
    rfl
theorem allC_same {C C' : List (List Nat)} {p : Nat} : ∀ m, (∀ i, i < m → C'[p + i]? = C[p + i]?) → p + m ≤ C.length → allC C' p m = allC C p m
  | 0, _, _ => by simp [allC]
  | m + 1, h, hl => by
    have e : C[p + m]? = some C[p + m] := List.getElem?_eq_getElem (by omega)
    rw [allC_succ C p m e, allC_succ C' p m ((h m (by omega)).trans e), allC_same m (fun i hi => h i (by omega)) (by omega)]
theorem four_be4 {n : Nat} (hn : n < 4294967296) (xs : List Nat) : four4 (be4 n ++ xs) = n := by
  unfold four4 be4
  simp only [List.cons_append, List.getD_cons_zero, List.getD_cons_succ]
  omega
theorem recB_form (ah b : List Nat) : recB ah b = be4 b.length ++ (recH ah b ++ (b ++ List.replicate ((64 - (be4 b.length ++ (recH ah b ++ b)).length % 64) % 64) 0)) := by
  unfold recB padTo
  simp only [List.append_assoc]
theorem recH_len (ah b : List Nat) : (recH ah b).length = 32 := by unfold recH; exact sha_len _
theorem getD_of_get {C : List (List Nat)} {i : Nat} {b : List Nat} (h : C[i]? = some b) : C.getD i [] = b := by rw [List.getD_eq_getElem?_getD, h]; rfl
/-- what was laid is read -/
theorem readC_lay {C : List (List Nat)} {half at' : Nat} {ah b : List Nat} {K : Nat} (hK : K = (99 + b.length) / 64) (hh : half ≤ 1) (hf : at' + K ≤ C.length / 2) (hb : b.length < 4294967296) :
    readC (layB C (half * (C.length / 2) + at') (recB ah b) K) half at' ah = some (b, recH ah b, at' + K) := by
  have hs2 : half * (C.length / 2) ≤ C.length / 2 := by have := Nat.mul_le_mul_right (C.length / 2) hh; omega
  have hl := recB_len ah b
  have hfit : half * (C.length / 2) + at' + K ≤ C.length := by omega
  have e0 : (layB C (half * (C.length / 2) + at') (recB ah b) K).getD (half * (C.length / 2) + at') [] = chunk (recB ah b) 0 := getD_of_get (layB_in (i := 0) hfit (by omega))
  have e1 : four4 (chunk (recB ah b) 0) = b.length := by
    unfold chunk
    rw [recB_form, List.drop_zero, List.take_append, List.take_of_length_le (by simp [be4])]
    exact four_be4 hb _
  have e2 : allC (layB C (half * (C.length / 2) + at') (recB ah b) K) (half * (C.length / 2) + at') K = recB ah b := by
    rw [allC_lay hfit K (Nat.le_refl _), List.take_of_length_le (by rw [hl, ← hK]; omega)]
  have e3 : ((recB ah b).drop 36).take b.length = b := by
    rw [recB_form, ← List.append_assoc, List.drop_left' (by rw [List.length_append, recH_len]; rfl), List.take_left' rfl]
  unfold readC
  rw [layB_len, if_neg (by omega)]
  dsimp only
  rw [e0, e1, ← hK, if_neg (by omega), e2, e3, if_pos rfl]
/-- a record stays what it is when its sectors do -/
theorem readC_keep {C C' : List (List Nat)} {half at' : Nat} {ah b h : List Nat} {t : Nat} (hr : readC C half at' ah = some (b, h, t)) (hh : half ≤ 1) (hl : C'.length = C.length)
    (hs : ∀ i, at' ≤ i → i < t → C'[half * (C.length / 2) + i]? = C[half * (C.length / 2) + i]?) : readC C' half at' ah = some (b, h, t) := by
  have o := readC_out hr
  have hs2 : half * (C.length / 2) ≤ C.length / 2 := by have := Nat.mul_le_mul_right (C.length / 2) hh; omega
  unfold readC at hr ⊢
  rw [hl]
  have e0 : C'.getD (half * (C.length / 2) + at') [] = C.getD (half * (C.length / 2) + at') [] := by
    rw [List.getD_eq_getElem?_getD, List.getD_eq_getElem?_getD, hs at' (Nat.le_refl _) o.2.2.1]
  rw [if_neg (by omega)] at hr ⊢
  dsimp only at hr ⊢
  rw [e0]
  split at hr
  · exact absurd hr (by simp)
  · rename_i hc
    rw [if_neg hc]
    have e1 : allC C' (half * (C.length / 2) + at') ((99 + four4 (C.getD (half * (C.length / 2) + at') [])) / 64) = allC C (half * (C.length / 2) + at') ((99 + four4 (C.getD (half * (C.length / 2) + at') [])) / 64) := by
      split at hr
      · simp only [Option.some.injEq, Prod.mk.injEq] at hr
        refine allC_same _ (fun i hi => ?_) (by omega)
        rw [Nat.add_assoc]
        exact hs (at' + i) (by omega) (by omega)
      · exact absurd hr (by simp)
    rw [e1]
    exact hr
def blank : List Nat := List.replicate 64 0
theorem readC_blank0 {C : List (List Nat)} {half at' : Nat} {ah b h : List Nat} {t : Nat} (hz : C[half * (C.length / 2) + at']? = some blank) (hr : readC C half at' ah = some (b, h, t)) : b = [] ∧ recH ah [] = z32 := by
  unfold readC at hr
  split at hr
  · exact absurd hr (by simp)
  · dsimp only at hr
    rw [getD_of_get hz, show four4 blank = 0 from rfl] at hr
    split at hr
    · exact absurd hr (by simp)
    · rw [List.take_zero, show (99 + 0) / 64 = 0 + 1 from rfl, allC_succ C (half * (C.length / 2) + at') 0 (bs := blank) hz, show allC C (half * (C.length / 2) + at') 0 = [] by simp [allC], List.nil_append] at hr
      split at hr
      · rename_i e
        simp only [Option.some.injEq, Prod.mk.injEq] at hr
        refine ⟨hr.1.symm, ?_⟩
        have e2 := congrArg (fun l => (l.drop 4).take 32) e
        rw [recB_form, List.drop_left' (by rfl), List.take_left' (recH_len _ _)] at e2
        rw [e2]
        rfl
      · exact absurd hr (by simp)
theorem readC_blank {C : List (List Nat)} {half at' : Nat} {ah : List Nat} (hz : C[half * (C.length / 2) + at']? = some blank) (hne : recH ah [] ≠ z32) : readC C half at' ah = none := by
  cases hr : readC C half at' ah with
  | none => rfl
  | some x =>
    obtain ⟨b, h, t⟩ := x
    exact absurd (readC_blank0 hz hr).2 hne
theorem readC_end {C : List (List Nat)} {half at' : Nat} {ah : List Nat} (h : C.length / 2 ≤ at') : readC C half at' ah = none := by
  unfold readC; rw [if_pos h]
/-- the digests behind the last record: not noughts -/
theorem ne_head : recH (recH (recH z32 (be8 1)) [97]) [] ≠ z32 := by decide +kernel
theorem ne_last0 : recH (recH z32 (be8 18446744073709551615)) [] ≠ z32 := by decide +kernel
theorem ne_last1 : recH (recH z32 (be8 18446744073709551614)) [] ≠ z32 := by decide +kernel
theorem ne_last2 : recH (recH z32 (be8 18446744073709551613)) [] ≠ z32 := by decide +kernel
theorem ne_last3 : recH (recH z32 (be8 18446744073709551612)) [] ≠ z32 := by decide +kernel
end Go.Proofs.YtllckpcggmfmkaaDoor
