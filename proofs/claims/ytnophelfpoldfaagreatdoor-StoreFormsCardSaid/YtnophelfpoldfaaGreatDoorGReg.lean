/- What a journal is. -/
import Derived.Test.YtnophelfpoldfaaGreatDoorJrd
import Derived.Test.YtnophelfpoldfaaGreatDoorGVar
import Derived.OrdersHeld
import Derived.Deep.RegionHeld
namespace Go.Proofs.YtnophelfpoldfaaGreatDoor
open Go.RowKit

def jcells (db half next turn : Nat) (chk : List Nat) (sv rv : Value) (dead : Bool) : List Value :=
  [.pointer (some ⟨db, 0, none⟩), .int .i64 (half : Int), .int .i64 (next : Int), .int .u64 (turn : Int)] ++ (nums .u8 chk ++ [sv, rv, .bool dead])
theorem jc_len {db half next turn : Nat} {chk : List Nat} {sv rv : Value} {dead : Bool} (h : chk.length = 32) : (jcells db half next turn chk sv rv dead).length = 39 := by
  simp [jcells, h]
theorem jc_tail {db half next turn : Nat} {chk : List Nat} {sv rv : Value} {dead : Bool} (h : chk.length = 32) (k : Nat) : (jcells db half next turn chk sv rv dead)[36 + k]? = [sv, rv, Value.bool dead][k]? := by
  unfold jcells
  rw [List.getElem?_append_right (by simp; omega), List.getElem?_append_right (by simp [h]; omega)]
  congr 1
  simp [h]; omega
theorem jc_set36 {db half next turn : Nat} {chk : List Nat} {sv rv : Value} {dead : Bool} (h : chk.length = 32) (v : Value) : (jcells db half next turn chk sv rv dead).set 36 v = jcells db half next turn chk v rv dead := by
  unfold jcells
  rw [List.set_append_right _ _ (by simp), List.set_append_right _ _ (by simp [h])]
  simp [h]
theorem jc_set37 {db half next turn : Nat} {chk : List Nat} {sv rv : Value} {dead : Bool} (h : chk.length = 32) (v : Value) : (jcells db half next turn chk sv rv dead).set 37 v = jcells db half next turn chk sv v dead := by
  unfold jcells
  rw [List.set_append_right _ _ (by simp), List.set_append_right _ _ (by simp [h])]
  simp [h]
theorem jc_set38 {db half next turn : Nat} {chk : List Nat} {sv rv : Value} {dead : Bool} (h : chk.length = 32) (v : Bool) : (jcells db half next turn chk sv rv dead).set 38 (.bool v) = jcells db half next turn chk sv rv v := by
  unfold jcells
  rw [List.set_append_right _ _ (by simp), List.set_append_right _ _ (by simp [h])]
  simp [h]
/-- block jb is a journal's struct -/
structure JB (w : World) (jb db half next turn : Nat) (chk : List Nat) (sv rv : Value) (dead : Bool) : Prop where
  cell : w.heap[jb]? = some (.cells (jcells db half next turn chk sv rv dead).toArray 64 (0, 0))
  l32 : chk.length = 32
section
variable {w w' : World} {jb db half next turn : Nat} {chk : List Nat} {sv rv : Value} {dead : Bool}
theorem JB.c0 (h : JB w jb db half next turn chk sv rv dead) : w.cell? ⟨jb, 0, none⟩ = some (.pointer (some ⟨db, 0, none⟩)) := gen_cell (j := 0) (row_range h.cell) rfl
theorem JB.c1 (h : JB w jb db half next turn chk sv rv dead) : w.cell? ⟨jb, 1, none⟩ = some (.int .i64 (half : Int)) := gen_cell (j := 1) (row_range h.cell) rfl
theorem JB.c2 (h : JB w jb db half next turn chk sv rv dead) : w.cell? ⟨jb, 2, none⟩ = some (.int .i64 (next : Int)) := gen_cell (j := 2) (row_range h.cell) rfl
theorem JB.c3 (h : JB w jb db half next turn chk sv rv dead) : w.cell? ⟨jb, 3, none⟩ = some (.int .u64 (turn : Int)) := gen_cell (j := 3) (row_range h.cell) rfl
theorem JB.c36 (h : JB w jb db half next turn chk sv rv dead) : w.cell? ⟨jb, 36, none⟩ = some sv := gen_cell (j := 36) (row_range h.cell) (jc_tail h.l32 0)
theorem JB.c37 (h : JB w jb db half next turn chk sv rv dead) : w.cell? ⟨jb, 37, none⟩ = some rv := gen_cell (j := 37) (row_range h.cell) (jc_tail h.l32 1)
theorem JB.c38 (h : JB w jb db half next turn chk sv rv dead) : w.cell? ⟨jb, 38, none⟩ = some (.bool dead) := gen_cell (j := 38) (row_range h.cell) (jc_tail h.l32 2)
theorem JB.rng (h : JB w jb db half next turn chk sv rv dead) : w.rangeAt jb 4 (nums .u8 chk) := by
  have := gen_range (row_range h.cell) 4 32
  have e : ((jcells db half next turn chk sv rv dead).drop 4).take 32 = nums .u8 chk := by
    unfold jcells
    rw [List.drop_append_of_le_length (by simp), show List.drop 4 [Value.pointer (some ⟨db, 0, none⟩), Value.int .i64 (half : Int), Value.int .i64 (next : Int), Value.int .u64 (turn : Int)] = [] from rfl, List.nil_append, List.take_left' (by rw [nums_length, h.l32])]
  rwa [e] at this
theorem JB.fz (h : JB w jb db half next turn chk sv rv dead) (k : Nat) : w.frozen? ⟨jb, k, none⟩ = false := frozen_of_row _ _ _ _ _ h.cell
theorem JB.lt (h : JB w jb db half next turn chk sv rv dead) : jb < w.heap.size := (Array.getElem?_eq_some_iff.1 h.cell).1
theorem JB.noBy (h : JB w jb db half next turn chk sv rv dead) : NoBy w jb := by
  intro cur hc
  rw [h.cell] at hc
  simp only [Option.some.injEq, Obj.cells.injEq] at hc
  exact absurd hc.2.1 (by decide)
theorem JB.keep {S : Nat → Prop} (h : JB w jb db half next turn chk sv rv dead) (k : Keep S w w') (hn : ¬ S jb) : JB w' jb db half next turn chk sv rv dead := ⟨k.heap h.cell hn, h.l32⟩
theorem JB.below (h : JB w jb db half next turn chk sv rv dead) (b : Below w.heap.size w w') : JB w' jb db half next turn chk sv rv dead := ⟨heap_keep h.cell b, h.l32⟩
theorem JB.there (h : JB w jb db half next turn chk sv rv dead) : w.there jb 4 32 := tag_there h.cell (by rw [List.size_toArray, jc_len h.l32]; decide)
/-- stores into its fields -/
theorem JB.set2 (h : JB w jb db half next turn chk sv rv dead) (n : Nat) {K : Act → World → Prop} {A : Act} (hk : ∀ W', Hid (JB W' jb db half n turn chk sv rv dead) → Hid (Far jb w W') → K A W') : K A (w.setCell ⟨jb, 2, none⟩ (.int .i64 (n : Int))) := setW h.cell fun W' h1 f1 => hk W' (hid ⟨h1.out, h.l32⟩) f1
theorem JB.set1 (h : JB w jb db half next turn chk sv rv dead) (n : Nat) {K : Act → World → Prop} {A : Act} (hk : ∀ W', Hid (JB W' jb db n next turn chk sv rv dead) → Hid (Far jb w W') → K A W') : K A (w.setCell ⟨jb, 1, none⟩ (.int .i64 (n : Int))) := setW h.cell fun W' h1 f1 => hk W' (hid ⟨h1.out, h.l32⟩) f1
theorem JB.set3 (h : JB w jb db half next turn chk sv rv dead) (n : Nat) {K : Act → World → Prop} {A : Act} (hk : ∀ W', Hid (JB W' jb db half next n chk sv rv dead) → Hid (Far jb w W') → K A W') : K A (w.setCell ⟨jb, 3, none⟩ (.int .u64 (n : Int))) := setW h.cell fun W' h1 f1 => hk W' (hid ⟨h1.out, h.l32⟩) f1
theorem JB.set36 (h : JB w jb db half next turn chk sv rv dead) (v : Value) {K : Act → World → Prop} {A : Act} (hk : ∀ W', Hid (JB W' jb db half next turn chk v rv dead) → Hid (Far jb w W') → K A W') : K A (w.setCell ⟨jb, 36, none⟩ v) := setW h.cell fun W' h1 f1 => hk W' (hid ⟨by rw [← jc_set36 h.l32 (sv := sv)]; exact h1.out, h.l32⟩) f1
theorem JB.set37 (h : JB w jb db half next turn chk sv rv dead) (v : Value) {K : Act → World → Prop} {A : Act} (hk : ∀ W', Hid (JB W' jb db half next turn chk sv v dead) → Hid (Far jb w W') → K A W') : K A (w.setCell ⟨jb, 37, none⟩ v) := setW h.cell fun W' h1 f1 => hk W' (hid ⟨by rw [← jc_set37 h.l32 (rv := rv)]; exact h1.out, h.l32⟩) f1
theorem JB.set38 (h : JB w jb db half next turn chk sv rv dead) (v : Bool) {K : Act → World → Prop} {A : Act} (hk : ∀ W', Hid (JB W' jb db half next turn chk sv rv v) → Hid (Far jb w W') → K A W') : K A (w.setCell ⟨jb, 38, none⟩ (.bool v)) := setW h.cell fun W' h1 f1 => hk W' (hid ⟨by rw [← jc_set38 h.l32 (dead := dead)]; exact h1.out, h.l32⟩) f1
theorem JB.setC (h : JB w jb db half next turn chk sv rv dead) (c : List Nat) (hc : c.length = 32) {K : Act → World → Prop} {A : Act} (hk : ∀ W', Hid (JB W' jb db half next turn c sv rv dead) → Hid (Far jb w W') → K A W') : K A (w.setCells jb 4 (nums .u8 c)) := by
  refine hk _ (hid ⟨?_, hc⟩) (hid (far_setCells _ _ _))
  rw [heap_setCells (nums .u8 c) 4 w _ h.cell]
  congr 2
  apply Array.ext'
  apply List.ext_getElem?
  intro j
  have hl : 4 + (nums .u8 c).length ≤ (jcells db half next turn chk sv rv dead).toArray.size := by rw [List.size_toArray, jc_len h.l32, nums_length, hc]; decide
  have := setMs_get (nums .u8 c) 4 (jcells db half next turn chk sv rv dead).toArray j hl
  rw [Array.getElem?_toList, this, nums_length, hc]
  split
  · rename_i hj
    rw [List.toList_toArray]
    unfold jcells
    rw [List.getElem?_append_right (by simp; omega), List.getElem?_append_left (by simp [hc]; omega)]
    rfl
  · rename_i hj
    rw [List.getElem?_toArray, List.toList_toArray]
    unfold jcells
    by_cases h4 : j < 4
    · rw [List.getElem?_append_left (by simp; omega), List.getElem?_append_left (by simp; omega)]
    · rw [List.getElem?_append_right (by simp; omega), List.getElem?_append_right (by simp [h.l32]; omega), List.getElem?_append_right (by simp; omega), List.getElem?_append_right (by simp [hc]; omega)]
      simp [h.l32, hc]
end
/-- records, each bytes -/
def JRs (w : World) (vs : List Value) (rs : List (List Nat)) : Prop := vs.length = rs.length ∧ ∀ (i : Nat) (v : Value) (r : List Nat), vs[i]? = some v → rs[i]? = some r → ByA w v r
theorem JRs.keep {S : Nat → Prop} {w w' : World} {vs : List Value} {rs : List (List Nat)} (h : JRs w vs rs) (k : Keep S w w') (hn : ∀ i, i < w.heap.size → S i → NoBy w i) : JRs w' vs rs := ⟨h.1, fun i v r hv hr => (h.2 i v r hv hr).keep k hn⟩
theorem JRs.nil (w : World) : JRs w [] [] := ⟨rfl, fun i v r h => by simp at h⟩
theorem JRs.snoc {w : World} {vs : List Value} {rs : List (List Nat)} (h : JRs w vs rs) {v : Value} {r : List Nat} (hv : ByA w v r) : JRs w (vs ++ [v]) (rs ++ [r]) := by
  refine ⟨by simp [h.1], fun i u s hu hs => ?_⟩
  by_cases hi : i < vs.length
  · rw [List.getElem?_append_left hi] at hu
    rw [List.getElem?_append_left (by have := h.1; omega)] at hs
    exact h.2 i u s hu hs
  · rw [List.getElem?_append_right (by omega)] at hu
    rw [List.getElem?_append_right (by have := h.1; omega), ← h.1] at hs
    have : i - vs.length = 0 := by have := (List.getElem?_eq_some_iff.1 hu).1; simp at this; omega
    rw [this] at hu hs
    simp at hu hs
    exact hu ▸ hs ▸ hv
/-- a journal on a disk -/
structure JourAt (w : World) (jb db B half next turn : Nat) (chk st : List Nat) (rv : Value) (rs : List (List Nat)) : Prop where
  ex : ∃ sv, JB w jb db half next turn chk sv rv false ∧ ByA w sv st
  c8 : ∀ d ∈ chk, d < 256
  row : ∃ vs, w.ownsRow B 22 1 rv rs.length vs ∧ JRs w vs rs
  lo : B ≤ jb
theorem rv_ne_jb {w : World} {jb db B half next turn : Nat} {chk : List Nat} {sv rv : Value} {dead : Bool} {n : Nat} {vs : List Value} (h : JB w jb db half next turn chk sv rv dead) (ho : w.ownsRow B 22 1 rv n vs) {g : Nat} (hg : rv.ownBlock = some g) : g ≠ jb := by
  intro e
  obtain ⟨cur, hc⟩ := own_obj ho hg
  rw [e, h.cell] at hc
  simp only [Option.some.injEq, Obj.cells.injEq] at hc
  exact absurd hc.2.1 (by decide)
theorem JourAt.keep {S : Nat → Prop} {w w' : World} {jb db B half next turn : Nat} {chk st : List Nat} {rv : Value} {rs : List (List Nat)} (h : JourAt w jb db B half next turn chk st rv rs) (k : Keep S w w') (hn : ∀ i, i < w.heap.size → S i → NoBy w i) (hj : ¬ S jb) (hr : ∀ g, rv.ownBlock = some g → ¬ S g) : JourAt w' jb db B half next turn chk st rv rs := by
  obtain ⟨sv, h1, h2⟩ := h.ex
  obtain ⟨vs, o1, o2⟩ := h.row
  exact ⟨⟨sv, h1.keep k hj, h2.keep k hn⟩, h.c8, ⟨vs, k.own o1 hr, o2.keep k hn⟩, h.lo⟩
theorem JourAt.below {w w' : World} {jb db B half next turn : Nat} {chk st : List Nat} {rv : Value} {rs : List (List Nat)} (h : JourAt w jb db B half next turn chk st rv rs) (b : Below w.heap.size w w') : JourAt w' jb db B half next turn chk st rv rs :=
  h.keep (Keep.of (S := fun _ => False) b) (fun _ _ h => h.elim) (fun h => h) (fun _ _ h => h)
/-- the records of a half, one behind the other -/
def ChainC (C : List (List Nat)) (half : Nat) : Nat → List Nat → List (List Nat) → Nat → List Nat → Prop
  | p, ah, [], p', ah' => readC C half p ah = none ∧ p' = p ∧ ah' = ah
  | p, ah, r :: rs, p', ah' => ∃ h t, readC C half p ah = some (r, h, t) ∧ ChainC C half t h rs p' ah'
end Go.Proofs.YtnophelfpoldfaaGreatDoor

/- A region that draws its order, with a condition that holds till one operation has come (a store), and another behind it. -/
namespace Go.Proofs.YtnophelfpoldfaaGreatDoor

section
variable {P : Program} {ops : Array Oper} {Q : Exit → Act → World → Prop} {md : Region.Mode} {S : Bool → World → Prop} {l : Nat}
/-- as wpAnyH, but S is told whether operation l has come -/
def wpAnyX (P : Program) (md : Region.Mode) (ops : Array Oper) (Q : Exit → Act → World → Prop) (S : Bool → World → Prop) (l : Nat) : Nat → Array Bool → Act → World → Prop
  | 0, listed, a, w => Region.ready md ops listed = [] ∧ Q .normal a w
  | fuel + 1, listed, a, w =>
    (Region.ready md ops listed = [] → Q .normal a w) ∧
    ∀ i ∈ Region.ready md ops listed, wpOp P ops Q i (fun a' w' => S ((listed.setIfInBounds i true).getD l true) w' ∧ wpAnyX P md ops Q S l fuel (listed.setIfInBounds i true) a' w') a w
theorem wpAny_of_X : ∀ (fuel : Nat) (listed : Array Bool) (a : Act) (w : World), wpAnyX P md ops Q S l fuel listed a w → wpAny P md ops Q fuel listed a w
  | 0, _, _, _, h => h
  | fuel + 1, _, _, _, h => ⟨h.1, fun _ hi => wpOp_mono (fun a' w' h' => wpAny_of_X fuel _ a' w' h'.2) (h.2 _ hi)⟩
/-- as wpAnyH_first; T: what the operation wants of the world; E: it comes before l -/
theorem wpAnyX_first {T : World → Prop} {i : Nat} {oi ol : Oper} {v : Value} (hi : ops[i]? = some oi) (hsel : ∀ (j : Nat) (o : Oper) cs b, ops[j]? = some o → o.op ≠ .select cs b)
    (hQ : ∀ c a w, Q (.panic c) (a.put oi.dst v) w → Q (.panic c) a w) (hol : ops[l]? = some ol) (hil : i ≠ l) (hT : (∀ w, S false w → T w) ∧ ((∃ e ∈ ol.after, Region.binds md e = true ∧ e.on = i) ∨ ∀ w, S true w → T w)) :
    ∀ (fuel : Nat) (listed : Array Bool) (a : Act) (w : World),
      (∀ j oj, ops[j]? = some oj → j ≠ i → listed.getD j true = false → (∀ e ∈ oj.after, Region.binds md e = true → e.on ≠ i) → oi.apart ops oj = true) →
      i ∈ Region.ready md ops listed → (listed.getD l true = false ∨ ∀ w, S true w → T w) → YieldsIf P ops T oi v a → S (listed.getD l true) w →
      wpAnyX P md ops Q S l fuel (listed.setIfInBounds i true) (a.put oi.dst v) w → wpAnyX P md ops Q S l (fuel + 1) listed a w := by
  have toT : ∀ (listed : Array Bool) w, (listed.getD l true = false ∨ ∀ w, S true w → T w) → S (listed.getD l true) w → T w := fun listed w hd hS => by
    rcases hd with e | e
    · rw [e] at hS; exact hT.1 w hS
    · cases hb : listed.getD l true with
      | false => rw [hb] at hS; exact hT.1 w hS
      | true => rw [hb] at hS; exact e w hS
  intro fuel
  induction fuel with
  | zero =>
    intro listed a w _ hr hd hy hS H
    refine ⟨fun h => (by rw [h] at hr; cases hr), fun j hj => ?_⟩
    by_cases hji : j = i
    · subst hji
      exact hy.wpOp hi (toT listed w hd hS) ⟨by rw [getD_set_ne true hil]; exact hS, H⟩
    · have := ready_mono hj hji
      rw [H.1] at this
      cases this
  | succ fuel ih =>
    intro listed a w hfree hr hd hy hS H
    refine ⟨fun h => (by rw [h] at hr; cases hr), fun j hj => ?_⟩
    by_cases hji : j = i
    · subst hji
      exact hy.wpOp hi (toT listed w hd hS) ⟨by rw [getD_set_ne true hil]; exact hS, H⟩
    · have h1 := H.2 j (ready_mono hj hji)
      obtain ⟨hjun, oj, hoj, hall⟩ := mem_ready.1 hj
      have hnot : ∀ e ∈ oj.after, Region.binds md e = true → e.on ≠ i := fun e he hb heq => by
        have h1 := hall e he hb
        have h0 := (mem_ready.1 hr).1
        rw [heq] at h1
        rcases Nat.lt_or_ge i listed.size with h' | h'
        · simp [h'] at h0 h1; rw [h0] at h1; cases h1
        · simp [Array.getElem?_eq_none h'] at h1
      have h2 := wpOp_putIf hoj (hfree j oj hoj hji hjun hnot) (fun cs b => hsel i oi cs b hi) (fun cs b => hsel j oj cs b hoj) hQ hy h1
      have hfree' : ∀ k ok, ops[k]? = some ok → k ≠ i → (listed.setIfInBounds j true).getD k true = false →
          (∀ e ∈ ok.after, Region.binds md e = true → e.on ≠ i) → oi.apart ops ok = true := fun k ok hk hki hun hno => by
        refine hfree k ok hk hki ?_ hno
        by_cases hjk : j = k
        · subst hjk; exact hjun
        · rw [getD_set_ne true hjk] at hun; exact hun
      have hd' : (listed.setIfInBounds j true).getD l true = false ∨ ∀ w, S true w → T w := by
        rcases hT.2 with ⟨e, he, hb, hei⟩ | h
        · rcases hd with hd | hd
          · refine .inl ?_
            rw [getD_set_ne true (fun ejl => ?_)]
            · exact hd
            · subst ejl
              rw [hol] at hoj
              cases hoj
              exact hnot e he hb hei
          · exact .inr hd
        · exact .inr h
      have hl2 : ((listed.setIfInBounds i true).setIfInBounds j true).getD l true = (listed.setIfInBounds j true).getD l true := by
        rw [Array.setIfInBounds_comm _ _ (Ne.symm hji), getD_set_ne true hil]
      refine wpOp_mono (fun a' w' h3 => ⟨by rw [← hl2]; exact h3.2.1, ih (listed.setIfInBounds j true) a' w' hfree' (ready_mono hr (Ne.symm hji)) hd' h3.1 (by rw [← hl2]; exact h3.2.1) ?_⟩) h2
      rw [Array.setIfInBounds_comm _ _ hji]
      exact h3.2.2
/-- an operation that comes before l -/
theorem wpAnyX_takeE {i : Nat} {oi ol : Oper} {v : Value} {fuel : Nat} {listed : Array Bool} {a : Act} {w : World} (hi : ops[i]? = some oi)
    (hs : Region.noSelect ops = true) (hf : Region.free md ops listed i = true) (hr : (Region.ready md ops listed).contains i = true)
    (hQ : ∀ c a w, Q (.panic c) (a.put oi.dst v) w → Q (.panic c) a w) (hol : ops[l]? = some ol) (hil : (i == l) = false) (he : ol.after.any (fun e => Region.binds md e && e.on == i) = true) (hb : listed.getD l true = false) (hy : YieldsIf P ops (S false) oi v a) (hS : S false w)
    (h : wpAnyX P md ops Q S l fuel (listed.setIfInBounds i true) (a.put oi.dst v) w) : wpAnyX P md ops Q S l (fuel + 1) listed a w := by
  obtain ⟨k, hk, hk2⟩ := Array.any_eq_true.1 he
  rw [Bool.and_eq_true, beq_iff_eq] at hk2
  exact wpAnyX_first (T := S false) hi (Region.noSelect_spec hs) hQ hol (by simpa using hil) ⟨fun _ h => h, .inl ⟨_, Array.getElem_mem hk, hk2.1, hk2.2⟩⟩ fuel listed a w (Region.free_spec hi hf) (by simpa using hr) (.inl hb) hy (by rw [hb]; exact hS) h
/-- any -/
theorem wpAnyX_takeA {i : Nat} {oi ol : Oper} {v : Value} {fuel : Nat} {listed : Array Bool} {a : Act} {w : World} {b : Bool} (hi : ops[i]? = some oi)
    (hs : Region.noSelect ops = true) (hf : Region.free md ops listed i = true) (hr : (Region.ready md ops listed).contains i = true)
    (hQ : ∀ c a w, Q (.panic c) (a.put oi.dst v) w → Q (.panic c) a w) (hol : ops[l]? = some ol) (hil : (i == l) = false) (hm : ∀ w, S false w → S true w) (hb : listed.getD l true = b) (hy : YieldsIf P ops (S true) oi v a) (hS : S b w)
    (h : wpAnyX P md ops Q S l fuel (listed.setIfInBounds i true) (a.put oi.dst v) w) : wpAnyX P md ops Q S l (fuel + 1) listed a w :=
  wpAnyX_first (T := S true) hi (Region.noSelect_spec hs) hQ hol (by simpa using hil) ⟨hm, .inr (fun _ h => h)⟩ fuel listed a w (Region.free_spec hi hf) (by simpa using hr) (.inr (fun _ h => h)) hy (by rw [hb]; exact hS) h
/-- wpAnyX_takeE, shorter -/
theorem tkE {i : Nat} {oi ol : Oper} {v : Value} {fuel : Nat} {listed : Array Bool} {a : Act} {w : World} (hi : ops[i]? = some oi) (hy : YieldsIf P ops (S false) oi v a) (hS : S false w)
    (h : wpAnyX P md ops Q S l fuel (listed.setIfInBounds i true) (a.put oi.dst v) w) (hs : Region.noSelect ops = true := by kernel_rfl) (hf : Region.free md ops listed i = true := by kernel_rfl) (hr : (Region.ready md ops listed).contains i = true := by kernel_rfl)
    (hQ : ∀ c a w, Q (.panic c) (a.put oi.dst v) w → Q (.panic c) a w := by exact fun _ _ _ h => h) (hol : ops[l]? = some ol := by rfl) (hil : (i == l) = false := by kernel_rfl) (he : ol.after.any (fun e => Region.binds md e && e.on == i) = true := by kernel_rfl) (hb : listed.getD l true = false := by kernel_rfl) : wpAnyX P md ops Q S l (fuel + 1) listed a w :=
  wpAnyX_takeE hi hs hf hr hQ hol hil he hb hy hS h
/-- wpAnyX_takeA, shorter -/
theorem tkA {i : Nat} {oi ol : Oper} {v : Value} {fuel : Nat} {listed : Array Bool} {a : Act} {w : World} {b : Bool} (hi : ops[i]? = some oi) (hy : YieldsIf P ops (S true) oi v a) (hS : S b w)
    (h : wpAnyX P md ops Q S l fuel (listed.setIfInBounds i true) (a.put oi.dst v) w) (hs : Region.noSelect ops = true := by kernel_rfl) (hf : Region.free md ops listed i = true := by kernel_rfl) (hr : (Region.ready md ops listed).contains i = true := by kernel_rfl)
    (hQ : ∀ c a w, Q (.panic c) (a.put oi.dst v) w → Q (.panic c) a w := by exact fun _ _ _ h => h) (hol : ops[l]? = some ol := by rfl) (hil : (i == l) = false := by kernel_rfl) (hm : ∀ w, S false w → S true w := by exact fun _ h => ⟨h.1, nofun⟩) (hb : listed.getD l true = b := by kernel_rfl) : wpAnyX P md ops Q S l (fuel + 1) listed a w :=
  wpAnyX_takeA hi hs hf hr hQ hol hil hm hb hy hS h
def AllReadyX (P : Program) (md : Region.Mode) (ops : Array Oper) (Q : Exit → Act → World → Prop) (S : Bool → World → Prop) (l : Nat) (fuel : Nat) (listed : Array Bool) (a : Act) (w : World) (rs : List Nat) : Prop :=
  ∀ i ∈ rs, wpOp P ops Q i (fun a' w' => S ((listed.setIfInBounds i true).getD l true) w' ∧ wpAnyX P md ops Q S l fuel (listed.setIfInBounds i true) a' w') a w
theorem AllReadyX.nil {fuel : Nat} {listed : Array Bool} {a : Act} {w : World} : AllReadyX P md ops Q S l fuel listed a w [] := fun _ h => by cases h
theorem AllReadyX.cons {fuel : Nat} {listed : Array Bool} {a : Act} {w : World} {i : Nat} {o : Oper} {rs : List Nat} {b : Bool} (ho : ops[i]? = some o) (hb : (listed.setIfInBounds i true).getD l true = b)
    (h : ∀ K' : Act → World → Prop, Shut (∀ a w, S b w → (S b w → wpAnyX P md ops Q S l fuel (listed.setIfInBounds i true) a w) → K' a w) → if Region.wanted o (yielded ops a.tmps) = true then Oper.wp P o a w K' Q else K' (a.put o.dst undef) w)
    (hs : AllReadyX P md ops Q S l fuel listed a w rs) : AllReadyX P md ops Q S l fuel listed a w (i :: rs) := fun j hj => by
  rcases List.mem_cons.1 hj with rfl | hj
  · refine wpOp_step ho (fun K' hK => h K' (fun a w hS hW => hK a w ⟨?_, hW hS⟩))
    rw [hb]; exact hS
  · exact hs j hj
theorem wpAnyX_ready {rs : List Nat} {fuel : Nat} {listed : Array Bool} {a : Act} {w : World} (hr : Region.ready md ops listed = rs) (hne : rs ≠ [])
    (h : AllReadyX P md ops Q S l fuel listed a w rs) : wpAnyX P md ops Q S l (fuel + 1) listed a w := ⟨fun h0 => absurd (hr ▸ h0) hne, hr ▸ h⟩
theorem wpAnyX_done {listed : Array Bool} {a : Act} {w : World} (hr : Region.ready md ops listed = []) (h : Q .normal a w) : ∀ fuel, wpAnyX P md ops Q S l fuel listed a w
  | 0 => ⟨hr, h⟩
  | _ + 1 => ⟨fun _ => h, by rw [hr]; simp⟩
theorem wp_region_X {id : Nat} {a : Act} {w : World} (hm : P.follows .mixedOrders = true) (hS : S false w.drew)
    (h : S false w.drew → wpAnyX P .any ops Q S l ops.size (Array.replicate ops.size false) a w.drew) : (Code.region id ops true).wp P Q a w :=
  wp_region_any hm (wpAny_of_X _ _ _ _ (h hS))
end
end Go.Proofs.YtnophelfpoldfaaGreatDoor

/- The journal's load, at a half that has nothing. -/
namespace Go.Proofs.YtnophelfpoldfaaGreatDoor
open Go.RowKit

theorem readC_out {C : List (List Nat)} {half at' : Nat} {ah b h : List Nat} {t : Nat} (hr : readC C half at' ah = some (b, h, t)) : at' < C.length / 2 ∧ h = recH ah b ∧ at' < t ∧ t ≤ C.length / 2 := by
  unfold readC at hr
  split at hr
  · exact absurd hr (by simp)
  · dsimp only at hr
    split at hr
    · exact absurd hr (by simp)
    · split at hr
      · simp only [Option.some.injEq, Prod.mk.injEq] at hr
        obtain ⟨e1, e2, rfl⟩ := hr
        exact ⟨by omega, by rw [← e1]; exact e2.symm, by omega, by omega⟩
      · exact absurd hr (by simp)
theorem readC_len {C : List (List Nat)} {half at' : Nat} {ah b h : List Nat} {t : Nat} (hr : readC C half at' ah = some (b, h, t)) : h.length = 32 := by
  rw [(readC_out hr).2.1]; unfold recH; rw [sha_len]
def LoadNo (w : World) (e : Ending) (w' : World) : Prop := e = .returned (.tuple #[.pointer none, .bool false]) ∧ Below w.heap.size w w'
set_option maxRecDepth 100000 in
set_option maxHeartbeats 4000000 in
theorem jload_no {w : World} {db B : Nat} {sv : Value} {C : List (List Nat)} (h : DiskAt w db B sv (.slice none 0 0) C []) (half : Nat) (hh : half ≤ 1) (ht : Tabs w) (hno : ∀ b h t, readC C half 0 z32 = some (b, h, t) → b.length < 8) :
    Calls Tryz.prog 24 #[.pointer (some ⟨db, 0, none⟩), .int .i64 (half : Int)] w (LoadNo w) := by
  have H := hid h
  have HH := hid hh
  have HT := hid ht
  have NO := hid hno
  clear h hh ht hno
  have z8 : ∀ d ∈ z32, d < 256 := by decide
  have Z8 := hid z8
  clear z8
  go_enter Tryz.func24, Tryz.ntmps24
  go_wp2_with (fail)
  have bw := (Below.refl w.heap.size w).alloc (Nat.le_refl _) (.cells (jcells db half 0 0 z32 (.slice none 0 0) (.slice none 0 0) false).toArray 64)
  refine (jread_walk (H.out.below bw) half HH.out 0 (by decide) z32 rfl Z8.out (HT.out.below bw)).mono ?_
  rintro e w2 ⟨hr, b2⟩
  have B2 := hid (show Below w.heap.size w w2 from bw.trans (b2.mono bw.size))
  clear bw b2
  cases hc : readC C half 0 z32 with
  | none =>
    rw [hc] at hr
    subst hr
    clear hc
    have hiZ := hid (show (Tryz.prog.info? 62).map (·.size) = some (nums .u8 z32).toArray.size by kernel_rfl)
    have hz1 := hid (all_oneCell_toArray (nums_oneCell .u8 z32))
    go_wp2_with (refine wpList_store_row rfl _ _ _ rfl w2.heap.size (nums .u8 z32).toArray rfl rfl _ _ (heap_alloc_new _ _) hiZ.out rfl hz1.out ?_)
    go_ret2
    exact ⟨rfl, below_setRow (B2.out.alloc B2.out.size _) B2.out.size _⟩
  | some x =>
    obtain ⟨b, h, t⟩ := x
    rw [hc] at hr
    obtain ⟨v, rfl, hv, _⟩ := hr
    have lh := readC_len hc
    have hiZ := hid (show (Tryz.prog.info? 62).map (·.size) = some (nums .u8 h).toArray.size by rw [List.size_toArray, nums_length, lh]; kernel_rfl)
    have hz1 := hid (all_oneCell_toArray (nums_oneCell .u8 h))
    have hoZ := hid (show 32 = (nums .u8 h).toArray.size by rw [List.size_toArray, nums_length, lh])
    have L8 := NO.out b h t hc
    obtain ⟨a, n, c, rfl, hs, _⟩ := hv
    have hn : n < 8 := by rw [← hs.len]; exact L8
    have t1 : decide (n < 8) = true := decide_eq_true hn
    have t2 : decide ((n : Int) < 8) = true := decide_eq_true (by omega)
    clear hc hs L8 hn lh
    go_wp2_with (refine wpList_store_row rfl _ _ _ rfl w2.heap.size (nums .u8 h).toArray rfl rfl _ _ (heap_alloc_new _ _) hiZ.out hoZ.out hz1.out ?_)
    go_ret2
    exact ⟨rfl, below_setRow (B2.out.alloc B2.out.size _) B2.out.size _⟩
end Go.Proofs.YtnophelfpoldfaaGreatDoor
