/- Slices cut in front, records that grow: for the walks of Decode. -/
import Derived.Test.YtgaidleepjkldaaEnc
import Derived.Test.YtgaidleepjkldaaRecs
namespace Go.Proofs.Ytgaidleepjkldaa
open Go.RowKit

theorem Sl.drop {k : IntKind} {w : World} {b off n cap m : Nat} {xs : List Nat} (h : Sl k w (some ⟨b, off, none⟩) n cap xs) (hm : m ≤ n) : Sl k w (if cap = m then some ⟨b, off, none⟩ else some ⟨b, off + m, none⟩) (n - m) (cap - m) (xs.drop m) := by
  have hl := h.len
  obtain ⟨_, h2, h3, h4, b', off', ha, hc⟩ := h
  by_cases h0 : n = m
  · subst h0
    have e : xs.drop n = [] := List.drop_eq_nil_of_le (by omega)
    rw [e]
    refine ⟨by simp [nums], by omega, by omega, ?_, 0, 0, by omega, by simp [nums]⟩
    split <;> simp
  · have hb := ha (by omega)
    simp only [Option.some.injEq, Addr.mk.injEq, and_true] at hb
    obtain ⟨rfl, rfl⟩ := hb
    rw [if_neg (by omega)]
    refine ⟨by simp; omega, by omega, by omega, (fun e => by cases e), b, off + m, fun _ => rfl, fun j u hu => ?_⟩
    rw [nums, List.map_drop, List.getElem?_drop] at hu
    rw [Nat.add_assoc]
    exact hc _ _ hu
theorem own_nil' (w : World) (B : Nat) (e : TypeId) (size : Nat) : w.ownsRow B e size (.slice none 0 0) 0 [] := ⟨by simp, .inl ⟨rfl, rfl⟩⟩
theorem szU8 (w : World) : (sizeOf (Try.prog.elem 26)).run Try.prog w = .ok 1 w := by
  have h := infoU8
  have e : Try.prog.elem 26 = 5 := by kernel_rfl
  rw [e]
  cases hi : Try.prog.info? 5 with
  | none => rw [hi] at h; cases h
  | some i =>
    rw [hi] at h
    simp only [Option.map_some, Option.some.injEq, Prod.mk.injEq] at h
    simp [sizeOf, typeInfo, hi, h.2.1]
theorem undU8 : Try.prog.underlying 26 = some (.slice (Try.prog.elem 26)) := by kernel_rfl
/-- 'x[m:]' -/
theorem wpList_dropS {w w0 : World} {ops : Array Oper} {rest : List Oper} {o : Oper} {a : Act} {Q : Exit → Act → World → Prop} (hg : o.guard = none) (x lo : Operand) (hop : o.op = Op.slice 26 x (some lo) none none)
    {b off n c m : Nat} {xs : List Nat} (hS : Sl .u8 w0 (some ⟨b, off, none⟩) n c xs) (hx : a.eval x = .slice (some ⟨b, off, none⟩) n c) (hlo : a.eval lo = .int .i64 (m : Int) ∨ a.eval lo = .int .u64 (m : Int)) (hm : m ≤ n)
    (h : ∀ b' off', Sl .u8 w0 (some ⟨b', off', none⟩) (n - m) (c - m) (xs.drop m) → wpList Try.prog ops Q rest (a.put o.dst (.slice (some ⟨b', off', none⟩) (n - m) (c - m))) w) : wpList Try.prog ops Q (o :: rest) a w := by
  refine wpList_plain hg fun K hK => ?_
  have hadd : (⟨b, off, none⟩ : Addr).add m = ⟨b, off + m, none⟩ := by unfold Addr.add; split <;> simp_all
  have hs : ∀ k, (Instr.sliceAt 26 (.slice (some ⟨b, off, none⟩) n c) (some (.int k (m : Int))) none none).run Try.prog w = .ok (.slice (if c = m then some (⟨b, off, none⟩ : Addr) else some ⟨b, off + m, none⟩) (n - m) (c - m)) w := by
    intro k
    rw [run_sliceAt_slice w _ _ _ _ _ undU8, run_slice_any w _ _ _ _ undU8]
    simp [Instr.sliceBounds, run_sliceBound w, szU8, Result.andThen, sliced, hadd, hm]
  have hd := Sl.drop hS hm
  have fin : wpList Try.prog ops Q rest (a.put o.dst (.slice (if c = m then some (⟨b, off, none⟩ : Addr) else some ⟨b, off + m, none⟩) (n - m) (c - m))) w := by
    split at hd
    · rename_i hc; rw [if_pos hc]; exact h _ _ hd
    · rename_i hc; rw [if_neg hc]; exact h _ _ hd
  unfold Oper.wp execOp
  rcases hlo with hlo | hlo
  · simp only [hop, hx, hlo, Option.map_some, Option.map_none, hs, Sem.run_bind, Result.andThen]
    exact hK _ _ fin
  · simp only [hop, hx, hlo, Option.map_some, Option.map_none, hs, Sem.run_bind, Result.andThen]
    exact hK _ _ fin
theorem ApartSl.grew {w w' : World} {v v' : Value} {a : Option Addr} {n c : Nat} {zs : List Nat} (h : ApartSl w v a n c zs) (hg : w.grownBy w' v.ownBlock) (hv : v'.ownBlock = v.ownBlock ∨ v'.ownBlock = some w.heap.size) : ApartSl w' v' a n c zs := by
  obtain ⟨h1, h2⟩ := h
  have cell : ∀ p : Addr, p.block < w.heap.size → v.ownBlock ≠ some p.block → w'.cell? p = w.cell? p := fun p hp hne => hg.cell_far p hp (Ne.symm hne)
  have h1' := h1
  refine ⟨?_, fun h0 b off ha => ?_⟩
  · obtain ⟨q1, q2, q3, q4, b, off, ha, hc⟩ := h1
    refine ⟨q1, q2, q3, q4, b, off, ha, fun j u hu => ?_⟩
    have hl := h1'.len
    have hj : 0 < n := by
      have := (List.getElem?_eq_some_iff.1 hu).1
      rw [nums_length] at this; omega
    have hcu := hc j u hu
    rw [cell _ (World.block_lt_of_cell? w _ hcu) (h2 hj b off (ha hj))]
    exact hcu
  · rcases hv with hv | hv
    · rw [hv]; exact h2 h0 b off ha
    · rw [hv]
      intro e
      simp at e
      obtain ⟨b', off', ha', hc⟩ := h1'.opened
      have := ha' h0
      rw [ha] at this
      simp only [Option.some.injEq, Addr.mk.injEq, and_true] at this
      obtain ⟨rfl, rfl⟩ := this
      have := World.block_lt_of_cell? w _ (hc 0 h0)
      simp at this
      omega
/-- 'append(s, x)', x laid into the block G just now; which blocks stay is handed on -/
theorem wpList_pushG {P : Program} {ops : Array Oper} {rest : List Oper} {o : Oper} {a : Act} {Q : Exit → Act → World → Prop} {w : World} (hgd : o.guard = none) (s x : Operand) (t : TypeId)
    (ho : o.op = .call { callee := .builtin .append, args := #[s, x], argTypes := #[t, t] })
    {e : TypeId} {size bytes : Nat} {z : Value} (ty : SliceTy P t e size bytes z) (B : Nat) {v : Value} {n : Nat} {xs : List Value} {us : Array Value} {et : TypeId} (hown : (w.alloc (.cells us et)).ownsRow B e size v n xs) (hs : a.eval s = v) (G : Nat) (hG : w.heap.size = G)
    (hx : a.eval x = .slice (some ⟨G, 0, none⟩) 1 1) (hl : us.size = size) (h1 : us.toList.all Value.oneCell' = true) (hn : n < 4294967296) (hby : bytes ≤ 16384) (hB : B ≤ w.heap.size)
    (h : ∀ v' w', w'.ownsRow B e size v' (n + 1) (xs ++ us.toList) → (w.alloc (.cells us et)).grownBy w' v.ownBlock → (v'.ownBlock = v.ownBlock ∨ v'.ownBlock = some (w.alloc (.cells us et)).heap.size) → wpList P ops Q rest (a.put o.dst v') w') : wpList P ops Q (o :: rest) a (w.alloc (.cells us et)) := by
  subst hG
  refine wpList_plain hgd fun K hK => ?_
  refine wp_cat s x t ho ty B hown hs hx ⟨by simp [hl], Nat.le_refl _, by unfold maxLen; omega, (fun e => by cases e), w.heap.size, 0, fun _ => rfl, fun j u hu => ?_⟩ (fun u hu => List.all_eq_true.1 h1 u hu) ?_ ?_ (by simp; omega) fun v' w' h2 h3 h4 => hK _ _ (h v' w' h2 h3 h4)
  · have := cells_new w us et j u hu
    have hadd : (⟨w.heap.size, 0, none⟩ : Addr).add j = ⟨w.heap.size, 0 + j, none⟩ := by unfold Addr.add; split <;> simp_all
    rwa [hadd] at this
  · have : (n + 1) * bytes ≤ 4294967296 * 16384 := Nat.mul_le_mul (by omega) hby
    omega
  · unfold maxLen; omega
theorem own_last {wr : World} {B : Nat} {e : TypeId} {v : Value} {ls : List LR} (hown : wr.ownsRow B e 2 v ls.length (ls.flatMap LR.cells)) {j : Nat} (hj : ls.length = j + 1) : ∃ g c4 lt, v = .slice (some ⟨g, 0, none⟩) (j + 1) c4 ∧ j + 1 ≤ c4 ∧ (ls.getLast?.map LR.t) = some lt ∧ wr.cell? ⟨g, j * 2, none⟩ = some (.int .u64 (lt : Int)) := by
  have hown' := hown
  rcases hown.2 with ⟨_, h0⟩ | ⟨g, c4, cur, rfl, _, _, hn, _⟩
  · omega
  · have hjl : j < ls.length := by omega
    have hl : ls[j]? = some ls[j] := List.getElem?_eq_getElem hjl
    refine ⟨g, c4, ls[j].t, by rw [hj], by omega, ?_, ?_⟩
    · rw [List.getLast?_eq_getElem?, hj, Nat.add_sub_cancel, hl]; rfl
    · rw [hown'.cellAt (j * 2) (by omega)]
      exact (flat_get hl).1
def lenOf : Value → Nat
  | .slice _ l _ => l
  | _ => 0
@[simp] theorem lenOf_slice (a : Option Addr) (l c : Nat) : lenOf (.slice a l c) = l := rfl
/-- a record read, apart from the slice v -/
def RB (w : World) (B : Nat) (l : LR) : Prop := w.ownsRow B 5 1 (.slice l.a l.v.length l.c) l.v.length (nums .u8 l.v)
def RG (w : World) (B : Nat) (v : Value) (l : LR) : Prop := l.t < 18446744073709551616 ∧ ApartSl w v l.a l.v.length l.c l.v ∧ ((∀ d ∈ l.v, d < 256) ∧ l.v.length ≤ 140737488351232) ∧ RB w B l
def comb (ls : List LR) (t : List Pr × Nat) : List Pr × Nat := if t.2 ≠ 0 then ([], t.2) else (ls.map LR.pr ++ t.1, 0)
def lastT (ls : List LR) : Option Nat := ls.getLast?.map LR.t
def DRel (w0 : World) (n0 : Nat) (bs0 : List Nat) (e : TypeId) (x0 x4 : Value) (wr : World) : Prop :=
  ∃ (a : Option Addr) (c : Nat) (bs : List Nat) (v : Value) (ls : List LR), .slice a bs.length c = x0 ∧ v = x4 ∧ Sl .u8 w0 a bs.length c bs ∧ (∀ d ∈ bs, d < 256) ∧ wr.ownsRow w0.heap.size e 2 v ls.length (ls.flatMap LR.cells) ∧ (∀ l ∈ ls, RG wr w0.heap.size v l) ∧ Below w0.heap.size w0 wr ∧ ls.length ≤ 256 ∧ bs.length ≤ n0 ∧
    Hid (decS bs0 = comb ls (decGo (bs.length + 1) (lastT ls) ls.length bs))
def DecRes (w : World) (bs : List Nat) (e : Ending) (w' : World) : Prop := ∃ v ls, e = .returned (.tuple #[v, .int .i64 (((decS bs).2 : Nat) : Int)]) ∧ RecsV w' v ls ∧ ls.map LR.pr = (decS bs).1 ∧ ls.length ≤ 256 ∧ Below w.heap.size w w'
/-- .. and all is the call's own -/
def DecRes2 (et : TypeId) (w : World) (bs : List Nat) (e : Ending) (w' : World) : Prop := ∃ v ls, e = .returned (.tuple #[v, .int .i64 (((decS bs).2 : Nat) : Int)]) ∧ RecsV w' v ls ∧ ls.map LR.pr = (decS bs).1 ∧ ls.length ≤ 256 ∧ Below w.heap.size w w' ∧ w'.ownsRow w.heap.size et 2 v ls.length (ls.flatMap LR.cells) ∧ ∀ l ∈ ls, RB w' w.heap.size l
theorem DecRes2.one {et : TypeId} {w w' : World} {bs : List Nat} {e : Ending} (h : DecRes2 et w bs e w') : DecRes w bs e w' := by
  obtain ⟨v, ls, h1, h2, h3, h4, h5, _⟩ := h
  exact ⟨v, ls, h1, h2, h3, h4, h5⟩
theorem recsV_nil (w : World) : RecsV w (.slice none 0 0) [] := ⟨none, 0, rfl, ⟨by simp, by simp, by simp, fun _ => rfl, 0, 0, by simp, by simp⟩, rfl, by simp⟩
theorem DecRes2.bad {et : TypeId} {w w' : World} {bs : List Nat} {z : Nat} {ls : List LR} {t : List Pr × Nat} (hd : decS bs = comb ls t) (ht : t = ([], z)) (h0 : z ≠ 0) (hb : Below w.heap.size w w') : DecRes2 et w bs (.returned (.tuple #[.slice none 0 0, .int .i64 (z : Int)])) w' := by
  have e : decS bs = ([], z) := by rw [hd, ht, comb, if_pos h0]
  exact ⟨_, [], by rw [e], recsV_nil _, by rw [e]; rfl, by simp, hb, own_nil' _ _ _ _, by simp⟩

end Go.Proofs.Ytgaidleepjkldaa
