/- Slices cut in front, records that grow: for the walks of Decode. -/
import Derived.Test.YtnophelfpoldfaaGreatDoorGSte
import Derived.Test.YtnophelfpoldfaaGreatDoorGSts
namespace Go.Proofs.YtnophelfpoldfaaGreatDoor
open Go.RowKit

theorem Sl.drop {k : IntKind} {w : World} {b off n cap m : Nat} {xs : List Nat} (h : Sl k w (some ⟨b, off, none⟩) n cap xs) (hm : m ≤ n) : Sl k w (if cap = m then some ⟨b, off, none⟩ else some ⟨b, off + m, none⟩) (n - m) (cap - m) (xs.drop m) := by
  have hl := h.len
  obtain ⟨_, h2, h3, h4, b', off', ha, hc⟩ := h
  by_cases h0 : n = m
  · subst h0
    have e : xs.drop n = [] := List.drop_eq_nil_of_le (by omega)
    rw [e]
    refine ⟨by simp [nums], by omega, by omega, ?_, 0, 0, by omega, by simp [nums]⟩
    split <;> simp
  · have hb := ha (by omega)
    simp only [Option.some.injEq, Addr.mk.injEq, and_true] at hb
    obtain ⟨rfl, rfl⟩ := hb
    rw [if_neg (by omega)]
    refine ⟨by simp; omega, by omega, by omega, (fun e => by cases e), b, off + m, fun _ => rfl, fun j u hu => ?_⟩
    rw [nums, List.map_drop, List.getElem?_drop] at hu
    rw [Nat.add_assoc]
    exact hc _ _ hu
theorem own_nil' (w : World) (B : Nat) (e : TypeId) (size : Nat) : w.ownsRow B e size (.slice none 0 0) 0 [] := ⟨by simp, .inl ⟨rfl, rfl⟩⟩
theorem szU8 (w : World) : (sizeOf (Tryz.prog.elem 22)).run Tryz.prog w = .ok 1 w := by
  have h := infoU8
  have e : Tryz.prog.elem 22 = 5 := by kernel_rfl
  rw [e]
  cases hi : Tryz.prog.info? 5 with
  | none => rw [hi] at h; cases h
  | some i =>
    rw [hi] at h
    simp only [Option.map_some, Option.some.injEq, Prod.mk.injEq] at h
    simp [sizeOf, typeInfo, hi, h.2.1]
theorem undU8 : Tryz.prog.underlying 22 = some (.slice (Tryz.prog.elem 22)) := by kernel_rfl
/-- 'x[m:]' -/
theorem wpList_dropS {w w0 : World} {ops : Array Oper} {rest : List Oper} {o : Oper} {a : Act} {Q : Exit → Act → World → Prop} (hg : o.guard = none) (x lo : Operand) (hop : o.op = Op.slice 22 x (some lo) none none)
    {b off n c m : Nat} {xs : List Nat} (hS : Sl .u8 w0 (some ⟨b, off, none⟩) n c xs) (hx : a.eval x = .slice (some ⟨b, off, none⟩) n c) (hlo : a.eval lo = .int .i64 (m : Int) ∨ a.eval lo = .int .u64 (m : Int)) (hm : m ≤ n)
    (h : ∀ b' off', Sl .u8 w0 (some ⟨b', off', none⟩) (n - m) (c - m) (xs.drop m) → wpList Tryz.prog ops Q rest (a.put o.dst (.slice (some ⟨b', off', none⟩) (n - m) (c - m))) w) : wpList Tryz.prog ops Q (o :: rest) a w := by
  refine wpList_plain hg fun K hK => ?_
  have hadd : (⟨b, off, none⟩ : Addr).add m = ⟨b, off + m, none⟩ := by unfold Addr.add; split <;> simp_all
  have hs : ∀ k, (Instr.sliceAt 22 (.slice (some ⟨b, off, none⟩) n c) (some (.int k (m : Int))) none none).run Tryz.prog w = .ok (.slice (if c = m then some (⟨b, off, none⟩ : Addr) else some ⟨b, off + m, none⟩) (n - m) (c - m)) w := by
    intro k
    rw [run_sliceAt_slice w _ _ _ _ _ undU8, run_slice_any w _ _ _ _ undU8]
    simp [Instr.sliceBounds, run_sliceBound w, szU8, Result.andThen, sliced, hadd, hm]
  have hd := Sl.drop hS hm
  have fin : wpList Tryz.prog ops Q rest (a.put o.dst (.slice (if c = m then some (⟨b, off, none⟩ : Addr) else some ⟨b, off + m, none⟩) (n - m) (c - m))) w := by
    split at hd
    · rename_i hc; rw [if_pos hc]; exact h _ _ hd
    · rename_i hc; rw [if_neg hc]; exact h _ _ hd
  unfold Oper.wp execOp
  rcases hlo with hlo | hlo
  · simp only [hop, hx, hlo, Option.map_some, Option.map_none, hs, Sem.run_bind, Result.andThen]
    exact hK _ _ fin
  · simp only [hop, hx, hlo, Option.map_some, Option.map_none, hs, Sem.run_bind, Result.andThen]
    exact hK _ _ fin
theorem ApartSl.grew {w w' : World} {v v' : Value} {a : Option Addr} {n c : Nat} {zs : List Nat} (h : ApartSl w v a n c zs) (hg : w.grownBy w' v.ownBlock) (hv : v'.ownBlock = v.ownBlock ∨ v'.ownBlock = some w.heap.size) : ApartSl w' v' a n c zs := by
  obtain ⟨h1, h2⟩ := h
  have cell : ∀ p : Addr, p.block < w.heap.size → v.ownBlock ≠ some p.block → w'.cell? p = w.cell? p := fun p hp hne => hg.cell_far p hp (Ne.symm hne)
  have h1' := h1
  refine ⟨?_, fun h0 b off ha => ?_⟩
  · obtain ⟨q1, q2, q3, q4, b, off, ha, hc⟩ := h1
    refine ⟨q1, q2, q3, q4, b, off, ha, fun j u hu => ?_⟩
    have hl := h1'.len
    have hj : 0 < n := by
      have := (List.getElem?_eq_some_iff.1 hu).1
      rw [nums_length] at this; omega
    have hcu := hc j u hu
    rw [cell _ (World.block_lt_of_cell? w _ hcu) (h2 hj b off (ha hj))]
    exact hcu
  · rcases hv with hv | hv
    · rw [hv]; exact h2 h0 b off ha
    · rw [hv]
      intro e
      simp at e
      obtain ⟨b', off', ha', hc⟩ := h1'.opened
      have := ha' h0
      rw [ha] at this
      simp only [Option.some.injEq, Addr.mk.injEq, and_true] at this
      obtain ⟨rfl, rfl⟩ := this
      have := World.block_lt_of_cell? w _ (hc 0 h0)
      simp at this
      omega
/-- 'append(s, x)', x laid into the block G just now; which blocks stay is handed on -/
theorem wpList_pushG {P : Program} {ops : Array Oper} {rest : List Oper} {o : Oper} {a : Act} {Q : Exit → Act → World → Prop} {w : World} (hgd : o.guard = none) (s x : Operand) (t : TypeId)
    (ho : o.op = .call { callee := .builtin .append, args := #[s, x], argTypes := #[t, t] })
    {e : TypeId} {size bytes : Nat} {z : Value} (ty : SliceTy P t e size bytes z) (B : Nat) {v : Value} {n : Nat} {xs : List Value} {us : Array Value} {et : TypeId} (hown : (w.alloc (.cells us et)).ownsRow B e size v n xs) (hs : a.eval s = v) (G : Nat) (hG : w.heap.size = G)
    (hx : a.eval x = .slice (some ⟨G, 0, none⟩) 1 1) (hl : us.size = size) (h1 : us.toList.all Value.oneCell' = true) (hn : n < 4294967296) (hby : bytes ≤ 16384) (hB : B ≤ w.heap.size)
    (h : ∀ v' w', w'.ownsRow B e size v' (n + 1) (xs ++ us.toList) → (w.alloc (.cells us et)).grownBy w' v.ownBlock → (v'.ownBlock = v.ownBlock ∨ v'.ownBlock = some (w.alloc (.cells us et)).heap.size) → wpList P ops Q rest (a.put o.dst v') w') : wpList P ops Q (o :: rest) a (w.alloc (.cells us et)) := by
  subst hG
  refine wpList_plain hgd fun K hK => ?_
  refine wp_cat s x t ho ty B hown hs hx ⟨by simp [hl], Nat.le_refl _, by unfold maxLen; omega, (fun e => by cases e), w.heap.size, 0, fun _ => rfl, fun j u hu => ?_⟩ (fun u hu => List.all_eq_true.1 h1 u hu) ?_ ?_ (by simp; omega) fun v' w' h2 h3 h4 => hK _ _ (h v' w' h2 h3 h4)
  · have := cells_new w us et j u hu
    have hadd : (⟨w.heap.size, 0, none⟩ : Addr).add j = ⟨w.heap.size, 0 + j, none⟩ := by unfold Addr.add; split <;> simp_all
    rwa [hadd] at this
  · have : (n + 1) * bytes ≤ 4294967296 * 16384 := Nat.mul_le_mul (by omega) hby
    omega
  · unfold maxLen; omega
theorem own_last {wr : World} {B : Nat} {e : TypeId} {v : Value} {ls : List LR} (hown : wr.ownsRow B e 2 v ls.length (ls.flatMap LR.cells)) {j : Nat} (hj : ls.length = j + 1) : ∃ g c4 lt, v = .slice (some ⟨g, 0, none⟩) (j + 1) c4 ∧ j + 1 ≤ c4 ∧ (ls.getLast?.map LR.t) = some lt ∧ wr.cell? ⟨g, j * 2, none⟩ = some (.int .u64 (lt : Int)) := by
  have hown' := hown
  rcases hown.2 with ⟨_, h0⟩ | ⟨g, c4, cur, rfl, _, _, hn, _⟩
  · omega
  · have hjl : j < ls.length := by omega
    have hl : ls[j]? = some ls[j] := List.getElem?_eq_getElem hjl
    refine ⟨g, c4, ls[j].t, by rw [hj], by omega, ?_, ?_⟩
    · rw [List.getLast?_eq_getElem?, hj, Nat.add_sub_cancel, hl]; rfl
    · rw [hown'.cellAt (j * 2) (by omega)]
      exact (flat_get hl).1
def lenOf : Value → Nat
  | .slice _ l _ => l
  | _ => 0
@[simp] theorem lenOf_slice (a : Option Addr) (l c : Nat) : lenOf (.slice a l c) = l := rfl
/-- a record read, apart from the slice v -/
def RB (w : World) (B : Nat) (l : LR) : Prop := w.ownsRow B 5 1 (.slice l.a l.v.length l.c) l.v.length (nums .u8 l.v)
def RG (w : World) (B : Nat) (v : Value) (l : LR) : Prop := l.t < 18446744073709551616 ∧ ApartSl w v l.a l.v.length l.c l.v ∧ ((∀ d ∈ l.v, d < 256) ∧ l.v.length ≤ 140737488351232) ∧ RB w B l
def comb (ls : List LR) (t : List Pr × Nat) : List Pr × Nat := if t.2 ≠ 0 then ([], t.2) else (ls.map LR.pr ++ t.1, 0)
def lastT (ls : List LR) : Option Nat := ls.getLast?.map LR.t
def DRel (w0 : World) (n0 : Nat) (bs0 : List Nat) (e : TypeId) (x0 x4 : Value) (wr : World) : Prop :=
  ∃ (a : Option Addr) (c : Nat) (bs : List Nat) (v : Value) (ls : List LR), .slice a bs.length c = x0 ∧ v = x4 ∧ Sl .u8 w0 a bs.length c bs ∧ (∀ d ∈ bs, d < 256) ∧ wr.ownsRow w0.heap.size e 2 v ls.length (ls.flatMap LR.cells) ∧ (∀ l ∈ ls, RG wr w0.heap.size v l) ∧ Below w0.heap.size w0 wr ∧ ls.length ≤ 256 ∧ bs.length ≤ n0 ∧
    Hid (decS bs0 = comb ls (decGo (bs.length + 1) (lastT ls) ls.length bs))
def DecRes (w : World) (bs : List Nat) (e : Ending) (w' : World) : Prop := ∃ v ls, e = .returned (.tuple #[v, .int .i64 (((decS bs).2 : Nat) : Int)]) ∧ RecsV w' v ls ∧ ls.map LR.pr = (decS bs).1 ∧ ls.length ≤ 256 ∧ Below w.heap.size w w'
/-- .. and all is the call's own -/
def DecRes2 (et : TypeId) (w : World) (bs : List Nat) (e : Ending) (w' : World) : Prop := ∃ v ls, e = .returned (.tuple #[v, .int .i64 (((decS bs).2 : Nat) : Int)]) ∧ RecsV w' v ls ∧ ls.map LR.pr = (decS bs).1 ∧ ls.length ≤ 256 ∧ Below w.heap.size w w' ∧ w'.ownsRow w.heap.size et 2 v ls.length (ls.flatMap LR.cells) ∧ ∀ l ∈ ls, RB w' w.heap.size l
theorem DecRes2.one {et : TypeId} {w w' : World} {bs : List Nat} {e : Ending} (h : DecRes2 et w bs e w') : DecRes w bs e w' := by
  obtain ⟨v, ls, h1, h2, h3, h4, h5, _⟩ := h
  exact ⟨v, ls, h1, h2, h3, h4, h5⟩
theorem recsV_nil (w : World) : RecsV w (.slice none 0 0) [] := ⟨none, 0, rfl, ⟨by simp, by simp, by simp, fun _ => rfl, 0, 0, by simp, by simp⟩, rfl, by simp⟩
theorem DecRes2.bad {et : TypeId} {w w' : World} {bs : List Nat} {z : Nat} {ls : List LR} {t : List Pr × Nat} (hd : decS bs = comb ls t) (ht : t = ([], z)) (h0 : z ≠ 0) (hb : Below w.heap.size w w') : DecRes2 et w bs (.returned (.tuple #[.slice none 0 0, .int .i64 (z : Int)])) w' := by
  have e : decS bs = ([], z) := by rw [hd, ht, comb, if_pos h0]
  exact ⟨_, [], by rw [e], recsV_nil _, by rw [e]; rfl, by simp, hb, own_nil' _ _ _ _, by simp⟩

end Go.Proofs.YtnophelfpoldfaaGreatDoor

/- The walk of tlv.Decode. -/
namespace Go.Proofs.YtnophelfpoldfaaGreatDoor
open Go.RowKit

theorem dec_e1 {p : Option Nat} {n : Nat} {xs : List Nat} {t m e : Nat} (h0 : xs ≠ []) (hR : readS xs = (t, m, e)) (he : e ≠ 0) : decGo (xs.length + 1) p n xs = ([], e) := by
  rw [decGo_cons _ _ h0, hR, if_pos he]
theorem dec_e2 {p : Option Nat} {n : Nat} {xs : List Nat} {t m : Nat} (h0 : xs ≠ []) (hR : readS xs = (t, m, 0)) (hp : p.any (fun q => decide (t ≤ q)) = true) : decGo (xs.length + 1) p n xs = ([], 22) := by
  rw [decGo_cons _ _ h0, hR]; simp only [ne_eq, not_true_eq_false, if_false, if_pos hp]
theorem dec_e3 {p : Option Nat} {n : Nat} {xs : List Nat} {t m sz k e : Nat} (h0 : xs ≠ []) (hR : readS xs = (t, m, 0)) (hp : ¬ p.any (fun q => decide (t ≤ q)) = true) (hS : readS (xs.drop m) = (sz, k, e)) (he : e ≠ 0) : decGo (xs.length + 1) p n xs = ([], e) := by
  rw [decGo_cons _ _ h0, hR]; simp only [ne_eq, not_true_eq_false, if_false, if_neg hp, hS, he, not_false_eq_true, if_true]
theorem dec_e4 {p : Option Nat} {n : Nat} {xs : List Nat} {t m sz k : Nat} (h0 : xs ≠ []) (hR : readS xs = (t, m, 0)) (hp : ¬ p.any (fun q => decide (t ≤ q)) = true) (hS : readS (xs.drop m) = (sz, k, 0)) (h1 : 65536 < sz) : decGo (xs.length + 1) p n xs = ([], 3) := by
  rw [decGo_cons _ _ h0, hR]; simp only [ne_eq, not_true_eq_false, if_false, if_neg hp, hS, if_pos h1]
theorem dec_e5 {p : Option Nat} {n : Nat} {xs : List Nat} {t m sz k : Nat} (h0 : xs ≠ []) (hR : readS xs = (t, m, 0)) (hp : ¬ p.any (fun q => decide (t ≤ q)) = true) (hS : readS (xs.drop m) = (sz, k, 0)) (h1 : ¬ 65536 < sz) (h2 : ((xs.drop m).drop k).length < sz) : decGo (xs.length + 1) p n xs = ([], 20) := by
  rw [decGo_cons _ _ h0, hR]; simp only [ne_eq, not_true_eq_false, if_false, if_neg hp, hS, if_neg h1, if_pos h2]
theorem dec_e6 {p : Option Nat} {n : Nat} {xs : List Nat} {t m sz k : Nat} (h0 : xs ≠ []) (hR : readS xs = (t, m, 0)) (hp : ¬ p.any (fun q => decide (t ≤ q)) = true) (hS : readS (xs.drop m) = (sz, k, 0)) (h1 : ¬ 65536 < sz) (h2 : ¬ ((xs.drop m).drop k).length < sz) (h3 : 256 ≤ n) : decGo (xs.length + 1) p n xs = ([], 4) := by
  rw [decGo_cons _ _ h0, hR]; simp only [ne_eq, not_true_eq_false, if_false, if_neg hp, hS, if_neg h1, if_neg h2, if_pos h3]
theorem dec_next {ls : List LR} {l : LR} {xs : List Nat} {t m sz k : Nat} (h0 : xs ≠ []) (hR : readS xs = (t, m, 0)) (hp : ¬ (lastT ls).any (fun q => decide (t ≤ q)) = true) (hS : readS (xs.drop m) = (sz, k, 0)) (h1 : ¬ 65536 < sz) (h2 : ¬ ((xs.drop m).drop k).length < sz) (h3 : ¬ 256 ≤ ls.length) (hl : l.pr = (t, ((xs.drop m).drop k).take sz)) :
    comb ls (decGo (xs.length + 1) (lastT ls) ls.length xs) = comb (ls ++ [l]) (decGo ((((xs.drop m).drop k).drop sz).length + 1) (lastT (ls ++ [l])) (ls ++ [l]).length (((xs.drop m).drop k).drop sz)) := by
  have hlt : l.t = t := congrArg Prod.fst hl
  have e1 : lastT (ls ++ [l]) = some t := by simp [lastT, hlt]
  rw [decGo_cons _ _ h0, hR]; simp only [ne_eq, not_true_eq_false, if_false, if_neg hp, hS, if_neg h1, if_neg h2, if_neg h3]
  rw [e1, List.length_append, List.length_singleton]
  generalize decGo ((((xs.drop m).drop k).drop sz).length + 1) (some t) (ls.length + 1) (((xs.drop m).drop k).drop sz) = u
  unfold comb
  by_cases hu : u.2 = 0
  · simp [hu, hl]
  · simp [hu]
theorem dec_init (bs : List Nat) : decS bs = comb [] (decS bs) := by
  have key : ∀ f p n xs, (decGo f p n xs).2 ≠ 0 → (decGo f p n xs).1 = [] := by
    intro f
    cases f with
    | zero => intro p n xs h; simp [decGo] at h
    | succ f =>
      intro p n xs h
      cases xs with
      | nil => simp [decGo] at h
      | cons x r =>
        unfold decGo at h ⊢
        simp only at h ⊢
        (repeat' split) <;> first | rfl | simp_all
        all_goals (split at h)
        all_goals first | omega | (simp at h)
  unfold comb
  by_cases e : (decS bs).2 ≠ 0
  · rw [if_pos e, ← key _ _ _ _ e]; rfl
  · rw [if_neg e]
    have : (decS bs).2 = 0 := by simpa using e
    rw [← this]; rfl
theorem readS_lt {xs : List Nat} {t m e : Nat} (h : readS xs = (t, m, e)) (hx : ∀ d ∈ xs, d < 256) : t < 18446744073709551616 := by
  cases xs with
  | nil => simp [readS] at h; omega
  | cons x r =>
    have hx1 := hx x (by simp)
    unfold readS at h
    simp only at h
    split at h
    · simp at h; omega
    · split at h
      · simp at h; omega
      · split at h
        · simp at h; omega
        · simp only [Prod.mk.injEq] at h
          rw [← h.1]
          have h1 := beVal_lt (r.take (folN x)) (fun d hd => hx d (by simp [List.mem_of_mem_take hd]))
          have h2 : (r.take (folN x)).length ≤ 8 := by
            have : folN x ≤ 8 := by unfold folN; (repeat' split) <;> omega
            simp; omega
          have h3 : 256 ^ (r.take (folN x)).length ≤ 256 ^ 8 := Nat.pow_le_pow_right (by omega) h2
          omega
theorem dec_mem {w0 wr w2 w4 : World} {e et : TypeId} {v v4 : Value} {ls : List LR} {a2 : Option Addr} {c2 sz t : Nat} {ys : List Nat} (hz : ys.length = sz) (HO : wr.ownsRow w0.heap.size e 2 v ls.length (ls.flatMap LR.cells)) (het : e ≠ 5) (HG : ∀ l ∈ ls, RG wr w0.heap.size v l) (HB : Below w0.heap.size w0 wr)
    (own2 : w2.ownsRow wr.heap.size 5 1 (.slice a2 sz c2) sz (nums .u8 ys)) (hb2 : Below wr.heap.size wr w2) (ht : t < 18446744073709551616) (hy : ∀ d ∈ ys, d < 256) (hyl : sz ≤ 140737488351232)
    (own4 : w4.ownsRow w0.heap.size e 2 v4 (ls.length + 1) (ls.flatMap LR.cells ++ [Value.int .u64 (t : Int), .slice a2 sz c2])) (hg4 : (w2.alloc (.cells #[.int .u64 (t : Int), .slice a2 sz c2] et)).grownBy w4 v.ownBlock)
    (hv4 : v4.ownBlock = v.ownBlock ∨ v4.ownBlock = some (w2.alloc (.cells #[.int .u64 (t : Int), .slice a2 sz c2] et)).heap.size) :
    w4.ownsRow w0.heap.size e 2 v4 (ls ++ [LR.mk t a2 c2 ys]).length ((ls ++ [LR.mk t a2 c2 ys]).flatMap LR.cells) ∧ (∀ l ∈ ls ++ [LR.mk t a2 c2 ys], RG w4 w0.heap.size v4 l) ∧ Below w0.heap.size w0 w4 := by
  have ba := (Below.refl w2.heap.size w2).alloc (Nat.le_refl _) (.cells #[.int .u64 (t : Int), .slice a2 sz c2] et)
  have b3 : Below wr.heap.size wr (w2.alloc (.cells #[.int .u64 (t : Int), .slice a2 sz c2] et)) := hb2.trans (ba.mono hb2.size)
  refine ⟨?_, fun l hl => ?_, ?_⟩
  · rw [List.length_append, List.flatMap_append]
    simpa [LR.cells, hz] using own4
  · rcases List.mem_append.1 hl with hl | hl
    · obtain ⟨g1, g2, g3, g4⟩ := HG l hl
      exact ⟨g1, (g2.below b3).grew hg4 hv4, g3, own_grew (own_below g4 b3) (own_below HO b3) (Ne.symm het) hg4⟩
    · simp only [List.mem_singleton] at hl
      subst hl
      have s2 : Sl .u8 w2 a2 sz c2 ys := sl_of_own own2
      refine ⟨ht, ?_, ⟨hy, by show ys.length ≤ _; omega⟩, ?_⟩
      rotate_left
      · show w4.ownsRow w0.heap.size 5 1 (.slice a2 ys.length c2) ys.length (nums .u8 ys)
        rw [hz]
        exact own_grew (own_below (own_mono own2 HB.size) ba) (own_below HO b3) (Ne.symm het) hg4
      show ApartSl w4 v4 a2 ys.length c2 ys
      rw [hz]
      refine ApartSl.grew ⟨s2.below ba, fun h0 b off ha hv => ?_⟩ hg4 hv4
      have h1 := (HO.lt b hv).2
      rcases own2.2 with ⟨e, _⟩ | ⟨g, cap, cur, e, hbg, _⟩
      · simp [ha] at e
      · simp at e
        rw [ha] at e
        simp at e
        all_goals omega
  · have hsz : w0.heap.size ≤ wr.heap.size := HB.size
    exact (HB.trans (b3.mono hsz)).grown hg4 (Nat.le_trans hsz b3.size) (fun k hk => (HO.lt k hk).1)
set_option maxRecDepth 100000 in
set_option maxHeartbeats 4000000 in
theorem dec_walk2 (a : Option Addr) (n cap : Nat) (bs : List Nat) (hbs : ∀ d ∈ bs, d < 256) (hn : n ≤ 140737488351232) (w : World) (h : Sl .u8 w a n cap bs) :
    Calls Tryz.prog 47 #[.slice a n cap] w (DecRes2 103 w bs) := by
  have HL := hid h.len
  go_enter Tryz.func47, Tryz.ntmps47
  go_wp2
  go_loopw [0, 4] (fun x0 x4 wr => DRel w n bs 103 x0 x4 wr) (fun x0 _ _ => lenOf x0)
  case atStart => exact ⟨a, cap, bs, _, [], by rw [HL.out], rfl, by rw [HL.out]; exact h, hbs, own_nil' _ _ _ _, by simp, Below.refl _ _, by simp, by rw [HL.out]; exact Nat.le_refl _, hid (dec_init bs)⟩
  case round =>
    clear h hbs
    obtain ⟨a, c, xs, v, ls, rfl, rfl, hs, hx, hown, hg, hb, hl, hxl, hd⟩ := hrel
    by_cases h0 : xs = []
    · subst h0
      have hd' := hd.out
      obtain ⟨a4, c4, rfl, r4⟩ := Rd.of_owns hown
      have e : decS bs = (ls.map LR.pr, 0) := by rw [hd']; simp [decGo, comb]
      have F := hid (show DecRes2 103 w bs (.returned (.tuple #[.slice a4 ls.length c4, .int .i64 0])) wr from ⟨_, ls, by rw [e]; rfl, ⟨a4, c4, rfl, r4, rfl, fun l hl => ⟨(hg l hl).1, (hg l hl).2.1.1, (hg l hl).2.2.1⟩⟩, by rw [e], hl, hb, hown, fun l hl => (hg l hl).2.2.2⟩)
      clear hd hd' e hg hown hs hx r4
      go_wp2
      go_ret2
      exact F.out
    · have hx0 : 0 < xs.length := List.length_pos_iff.2 h0
      have h0' := hid h0
      clear h0
      obtain ⟨bk, off, ha, _⟩ := hs.opened
      obtain rfl := ha hx0
      have C1 := hid (read_walk (some ⟨bk, off, none⟩) xs.length c xs hx (by omega) wr (hs.below hb))
      have HS := hid hs
      have HD := hd
      have BAD := hid (fun (z : Nat) (e : decGo (xs.length + 1) (lastT ls) ls.length xs = ([], z)) (h0 : z ≠ 0) w' (hb : Below w.heap.size w w') => DecRes2.bad (et := 103) (w' := w') hd.out e h0 hb)
      generalize hR : readS xs = R at *
      obtain ⟨t, m, e⟩ := R
      have HR := hid hR
      have HG := hid hg
      have HO := hid hown
      have HB := hid hb
      have hcap := hs.2.1
      clear hR hd hg hs
      by_cases he : e = 0
      · subst he
        rcases Nat.eq_zero_or_pos ls.length with hl0 | hl0
        · obtain rfl : ls = [] := List.eq_nil_of_length_eq_zero hl0
          obtain ⟨a4, c4, rfl, r4⟩ := Rd.of_owns hown
          have HP := hid (show ¬ (lastT ([] : List LR)).any (fun q => decide (t ≤ q)) = true by simp [lastT])
          clear r4 hown
          have hm := readS_len (bs := xs) (by rw [HR.out])
          rw [HR.out] at hm
          have hm1 : 1 ≤ m := hm.1
          have hm2 : m ≤ xs.length := hm.2
          clear hm
          have hx2 : ∀ d ∈ xs.drop m, d < 256 := fun d hd => hx d (List.mem_of_mem_drop hd)
          have hld : (xs.drop m).length = xs.length - m := List.length_drop
          generalize hS : readS (xs.drop m) = R2 at *
          obtain ⟨sz, k, e2⟩ := R2
          have HS2 := hid hS
          have HX2 := hid hx2
          have HLD := hid hld
          clear hS hx2 hld
          go_wp2_with fail
          refine C1.out.mono ?_
          rintro e w1 ⟨rfl, rfl⟩
          rw [RdV3]
          go_wp2_with (refine wpList_dropS rfl _ _ rfl HS.out rfl (.inl rfl) hm2 ?_)
          intro b2 o2 s2
          have D2 := hid s2
          clear s2
          have C2 := hid (read_walk (some ⟨b2, o2, none⟩) (xs.length - m) (c - m) (xs.drop m) HX2.out (by omega) wr (D2.out.below HB.out))
          rw [HS2.out] at C2
          go_wp2_with fail
          refine C2.out.mono ?_
          rintro e w2 ⟨rfl, rfl⟩
          rw [RdV3]
          clear C2
          by_cases he2 : e2 = 0
          · subst he2
            have hk := readS_len (bs := xs.drop m) (by rw [HS2.out])
            rw [HS2.out, HLD.out] at hk
            have hk1 : 1 ≤ k := hk.1
            have hk2 : k ≤ xs.length - m := hk.2
            clear hk
            have hlk : ((xs.drop m).drop k).length = xs.length - m - k := by rw [List.length_drop, HLD.out]
            have HLK := hid hlk
            clear hlk
            go_wp2_with (refine wpList_dropS rfl _ _ rfl D2.out rfl (.inl rfl) hk2 ?_)
            intro b3 o3 s3
            have D3 := hid (show Sl .u8 w (some ⟨b3, o3, none⟩) (xs.length - m - k) (c - m - k) ((xs.drop m).drop k) by first | exact s3 | (rw [List.drop_drop]; exact s3))
            clear s3
            by_cases q1 : 65536 < sz
            · have tq1 : decide ((sz : Int) > 65536) = true := by rw [decide_eq_true_eq]; omega
              have F := hid (BAD.out 3 (dec_e4 h0'.out HR.out HP.out HS2.out q1) (by first | decide | assumption) _ HB.out)
              clear BAD HD
              go_wp2
              go_ret2
              exact F.out
            · have tq1 : decide ((sz : Int) > 65536) = false := by rw [decide_eq_false_iff_not]; omega
              have hwr : IntKind.u64.wrap ((xs.length - m - k : Nat) : Int) = ((xs.length - m - k : Nat) : Int) := by
                have hz : xs.length - m - k < 18446744073709551616 := by omega
                generalize xs.length - m - k = z at *
                simp [IntKind.wrap, IntKind.signed, IntKind.bits]; omega
              by_cases q2 : xs.length - m - k < sz
              · have tq2 : decide (xs.length - m - k < sz) = true := by rw [decide_eq_true_eq]; omega
                have HQ2 := hid (show ((xs.drop m).drop k).length < sz by rw [HLK.out]; exact q2)
                have F := hid (BAD.out 20 (dec_e5 h0'.out HR.out HP.out HS2.out q1 HQ2.out) (by first | decide | assumption) _ HB.out)
                clear BAD HD
                go_wp2
                go_ret2
                exact F.out
              · have tq2 : decide (xs.length - m - k < sz) = false := by rw [decide_eq_false_iff_not]; omega
                have HQ2 := hid (show ¬ ((xs.drop m).drop k).length < sz by rw [HLK.out]; exact q2)
                by_cases q3 : 0 = 256
                · have tq3 : ((0 : Nat) : Int) = 256 := by omega
                  have F := hid (BAD.out 4 (dec_e6 h0'.out HR.out HP.out HS2.out q1 HQ2.out (by omega)) (by decide) _ HB.out)
                  clear BAD HD
                  go_wp2
                  go_ret2
                  exact F.out
                · have tq3 : (((0 : Nat) : Int) == 256) = false := by first | (simp; done) | (simp; omega)
                  have hsz : sz ≤ xs.length - m - k := by omega
                  have S4 := hid ((D3.out.take (m := sz) hsz).below HB.out)
                  have NX := hid (fun (l : LR) (hl : l.pr = (t, ((xs.drop m).drop k).take sz)) => dec_next h0'.out HR.out HP.out HS2.out q1 HQ2.out (by omega) hl)
                  have HZ := hid (show (((xs.drop m).drop k).take sz).length = sz by rw [List.length_take, HLK.out]; omega)
                  have HX3 := hid (show ∀ d ∈ ((xs.drop m).drop k).take sz, d < 256 from fun d hd => HX2.out d (List.mem_of_mem_drop (List.mem_of_mem_take hd)))
                  have HX4 := hid (show ∀ d ∈ ((xs.drop m).drop k).drop sz, d < 256 from fun d hd => HX2.out d (List.mem_of_mem_drop (List.mem_of_mem_drop hd)))
                  have HLD5 := hid (show (((xs.drop m).drop k).drop sz).length = xs.length - m - k - sz by rw [List.length_drop, HLK.out])
                  have ht64 := hid (readS_lt HR.out hx)
                  generalize ((xs.drop m).drop k).take sz = ys at *
                  clear BAD q1 q2
                  go_wp2_with (at_builtin; refine wpList_cat rfl _ _ 22 rfl tyBs wr.heap.size (own_nil' _ _ _ _) rfl rfl S4.out (nums_oneCell _ _) ?CC1 ?CC2 ?CC3 ?_)
                  case CC1 => omega
                  case CC2 => unfold maxLen; omega
                  case CC3 => exact Nat.le_refl _
                  intro v2 w2 own2 hb2 hs2
                  obtain ⟨a2', c2', rfl, r2'⟩ := Rd.of_owns own2
                  have OW2 := hid own2
                  have BW2 := hid hb2
                  clear own2 hb2 r2' S4
                  have O3 := hid (own_below (own_below HO.out BW2.out) ((Below.refl w2.heap.size w2).alloc (Nat.le_refl _) (.cells #[.int .u64 (t : Int), .slice a2' sz c2'] 103)))
                  go_wp2_with (at_builtin; refine wpList_pushG rfl _ _ 100 rfl tyRec w.heap.size O3.out rfl w2.heap.size rfl rfl rfl rfl (by omega) (by decide) (Nat.le_trans HB.out.size BW2.out.size) ?_)
                  intro v4 w4 own4 hg4 hv4
                  have MEM := hid (dec_mem HZ.out HO.out (by decide) HG.out HB.out OW2.out BW2.out ht64.out HX3.out (by omega) own4 hg4 (by simpa using hv4))
                  clear own4 hg4 hv4 O3
                  go_wp2_with (refine wpList_dropS rfl _ _ rfl D3.out rfl (.inr rfl) hsz ?_)
                  intro b5 o5 s5
                  have S5 := hid (show Sl .u8 w (some ⟨b5, o5, none⟩) (xs.length - m - k - sz) (c - m - k - sz) (((xs.drop m).drop k).drop sz) by first | exact s5 | (simpa only [List.drop_drop] using s5))
                  clear s5
                  go_wp2
                  go_roundw
                  case rel => exact ⟨some ⟨b5, o5, none⟩, _, _, v4, _, by rw [HLD5.out], rfl, by rw [HLD5.out]; exact S5.out, HX4.out, MEM.out.1, MEM.out.2.1, MEM.out.2.2, by first | (simp; done) | (simp; omega), by rw [HLD5.out]; omega, hid (by rw [HD.out, NX.out ⟨t, a2', c2', ys⟩ rfl])⟩
                  case measure => simp; omega
          · have F := hid (BAD.out e2 (dec_e3 h0'.out HR.out HP.out HS2.out he2) he2 _ HB.out)
            have te2 : ((e2 : Int) != 0) = true := by simp; omega
            clear BAD HD
            go_wp2
            go_ret2
            exact F.out
        · obtain ⟨j, hj⟩ : ∃ j, ls.length = j + 1 := ⟨ls.length - 1, by omega⟩
          obtain ⟨g, c4, lt, rfl, hc4, hlast, hcell⟩ := own_last hown hj
          have hany : (lastT ls).any (fun q => decide (t ≤ q)) = decide (t ≤ lt) := by unfold lastT; rw [hlast]; rfl
          have ej : (((j + 1 : Nat) : Int) - 1) = (j : Int) := by omega
          have tj : decide (0 < j + 1) = true := by simp
          have hj256 : j + 1 ≤ 256 := by omega
          have HJ := hid hj
          clear hown hlast hj hl hl0
          by_cases ho : t ≤ lt
          · have to : decide (t ≤ lt) = true := decide_eq_true ho
            have F := hid (BAD.out 22 (dec_e2 h0'.out HR.out (by rw [hany]; exact to)) (by decide) _ HB.out)
            clear BAD HD hany ho
            go_wp2_with fail
            refine C1.out.mono ?_
            rintro e w1 ⟨rfl, rfl⟩
            rw [RdV3]
            go_wp2
            go_ret2
            exact F.out
          · have to : decide (t ≤ lt) = false := decide_eq_false ho
            have HP := hid (show ¬ (lastT ls).any (fun q => decide (t ≤ q)) = true by rw [hany, to]; simp)
            clear hany ho
            have hm := readS_len (bs := xs) (by rw [HR.out])
            rw [HR.out] at hm
            have hm1 : 1 ≤ m := hm.1
            have hm2 : m ≤ xs.length := hm.2
            clear hm
            have hx2 : ∀ d ∈ xs.drop m, d < 256 := fun d hd => hx d (List.mem_of_mem_drop hd)
            have hld : (xs.drop m).length = xs.length - m := List.length_drop
            generalize hS : readS (xs.drop m) = R2 at *
            obtain ⟨sz, k, e2⟩ := R2
            have HS2 := hid hS
            have HX2 := hid hx2
            have HLD := hid hld
            clear hS hx2 hld
            go_wp2_with fail
            refine C1.out.mono ?_
            rintro e w1 ⟨rfl, rfl⟩
            rw [RdV3]
            go_wp2_with (refine wpList_dropS rfl _ _ rfl HS.out rfl (.inl rfl) hm2 ?_)
            intro b2 o2 s2
            have D2 := hid s2
            clear s2
            have C2 := hid (read_walk (some ⟨b2, o2, none⟩) (xs.length - m) (c - m) (xs.drop m) HX2.out (by omega) wr (D2.out.below HB.out))
            rw [HS2.out] at C2
            go_wp2_with fail
            refine C2.out.mono ?_
            rintro e w2 ⟨rfl, rfl⟩
            rw [RdV3]
            clear C2
            by_cases he2 : e2 = 0
            · subst he2
              have hk := readS_len (bs := xs.drop m) (by rw [HS2.out])
              rw [HS2.out, HLD.out] at hk
              have hk1 : 1 ≤ k := hk.1
              have hk2 : k ≤ xs.length - m := hk.2
              clear hk
              have hlk : ((xs.drop m).drop k).length = xs.length - m - k := by rw [List.length_drop, HLD.out]
              have HLK := hid hlk
              clear hlk
              go_wp2_with (refine wpList_dropS rfl _ _ rfl D2.out rfl (.inl rfl) hk2 ?_)
              intro b3 o3 s3
              have D3 := hid (show Sl .u8 w (some ⟨b3, o3, none⟩) (xs.length - m - k) (c - m - k) ((xs.drop m).drop k) by first | exact s3 | (rw [List.drop_drop]; exact s3))
              clear s3
              by_cases q1 : 65536 < sz
              · have tq1 : decide ((sz : Int) > 65536) = true := by rw [decide_eq_true_eq]; omega
                have F := hid (BAD.out 3 (dec_e4 h0'.out HR.out HP.out HS2.out q1) (by first | decide | assumption) _ HB.out)
                clear BAD HD
                go_wp2
                go_ret2
                exact F.out
              · have tq1 : decide ((sz : Int) > 65536) = false := by rw [decide_eq_false_iff_not]; omega
                have hwr : IntKind.u64.wrap ((xs.length - m - k : Nat) : Int) = ((xs.length - m - k : Nat) : Int) := by
                  have hz : xs.length - m - k < 18446744073709551616 := by omega
                  generalize xs.length - m - k = z at *
                  simp [IntKind.wrap, IntKind.signed, IntKind.bits]; omega
                by_cases q2 : xs.length - m - k < sz
                · have tq2 : decide (xs.length - m - k < sz) = true := by rw [decide_eq_true_eq]; omega
                  have HQ2 := hid (show ((xs.drop m).drop k).length < sz by rw [HLK.out]; exact q2)
                  have F := hid (BAD.out 20 (dec_e5 h0'.out HR.out HP.out HS2.out q1 HQ2.out) (by first | decide | assumption) _ HB.out)
                  clear BAD HD
                  go_wp2
                  go_ret2
                  exact F.out
                · have tq2 : decide (xs.length - m - k < sz) = false := by rw [decide_eq_false_iff_not]; omega
                  have HQ2 := hid (show ¬ ((xs.drop m).drop k).length < sz by rw [HLK.out]; exact q2)
                  by_cases q3 : (j + 1) = 256
                  · have tq3 : (((j + 1) : Nat) : Int) = 256 := by omega
                    have F := hid (BAD.out 4 (dec_e6 h0'.out HR.out HP.out HS2.out q1 HQ2.out (by (have := HJ.out; omega))) (by decide) _ HB.out)
                    clear BAD HD
                    go_wp2
                    go_ret2
                    exact F.out
                  · have tq3 : ((((j + 1) : Nat) : Int) == 256) = false := by first | (simp; done) | (simp; omega)
                    have hsz : sz ≤ xs.length - m - k := by omega
                    have S4 := hid ((D3.out.take (m := sz) hsz).below HB.out)
                    have NX := hid (fun (l : LR) (hl : l.pr = (t, ((xs.drop m).drop k).take sz)) => dec_next h0'.out HR.out HP.out HS2.out q1 HQ2.out (by (have := HJ.out; omega)) hl)
                    have HZ := hid (show (((xs.drop m).drop k).take sz).length = sz by rw [List.length_take, HLK.out]; omega)
                    have HX3 := hid (show ∀ d ∈ ((xs.drop m).drop k).take sz, d < 256 from fun d hd => HX2.out d (List.mem_of_mem_drop (List.mem_of_mem_take hd)))
                    have HX4 := hid (show ∀ d ∈ ((xs.drop m).drop k).drop sz, d < 256 from fun d hd => HX2.out d (List.mem_of_mem_drop (List.mem_of_mem_drop hd)))
                    have HLD5 := hid (show (((xs.drop m).drop k).drop sz).length = xs.length - m - k - sz by rw [List.length_drop, HLK.out])
                    have ht64 := hid (readS_lt HR.out hx)
                    generalize ((xs.drop m).drop k).take sz = ys at *
                    clear BAD q1 q2
                    go_wp2_with (at_builtin; refine wpList_cat rfl _ _ 22 rfl tyBs wr.heap.size (own_nil' _ _ _ _) rfl rfl S4.out (nums_oneCell _ _) ?CC1 ?CC2 ?CC3 ?_)
                    case CC1 => omega
                    case CC2 => unfold maxLen; omega
                    case CC3 => exact Nat.le_refl _
                    intro v2 w2 own2 hb2 hs2
                    obtain ⟨a2', c2', rfl, r2'⟩ := Rd.of_owns own2
                    have OW2 := hid own2
                    have BW2 := hid hb2
                    clear own2 hb2 r2' S4
                    have O3 := hid (own_below (own_below HO.out BW2.out) ((Below.refl w2.heap.size w2).alloc (Nat.le_refl _) (.cells #[.int .u64 (t : Int), .slice a2' sz c2'] 103)))
                    go_wp2_with (at_builtin; refine wpList_pushG rfl _ _ 100 rfl tyRec w.heap.size O3.out rfl w2.heap.size rfl rfl rfl rfl (by (have := HJ.out; omega)) (by decide) (Nat.le_trans HB.out.size BW2.out.size) ?_)
                    intro v4 w4 own4 hg4 hv4
                    have MEM := hid (dec_mem HZ.out HO.out (by decide) HG.out HB.out OW2.out BW2.out ht64.out HX3.out (by omega) own4 hg4 (by simpa using hv4))
                    clear own4 hg4 hv4 O3
                    go_wp2_with (refine wpList_dropS rfl _ _ rfl D3.out rfl (.inr rfl) hsz ?_)
                    intro b5 o5 s5
                    have S5 := hid (show Sl .u8 w (some ⟨b5, o5, none⟩) (xs.length - m - k - sz) (c - m - k - sz) (((xs.drop m).drop k).drop sz) by first | exact s5 | (simpa only [List.drop_drop] using s5))
                    clear s5
                    go_wp2
                    go_roundw
                    case rel => exact ⟨some ⟨b5, o5, none⟩, _, _, v4, _, by rw [HLD5.out], rfl, by rw [HLD5.out]; exact S5.out, HX4.out, MEM.out.1, MEM.out.2.1, MEM.out.2.2, by first | (simp; done) | (simp; (have := HJ.out; omega)), by rw [HLD5.out]; omega, hid (by rw [HD.out, NX.out ⟨t, a2', c2', ys⟩ rfl])⟩
                    case measure => simp; omega
            · have F := hid (BAD.out e2 (dec_e3 h0'.out HR.out HP.out HS2.out he2) he2 _ HB.out)
              have te2 : ((e2 : Int) != 0) = true := by simp; omega
              clear BAD HD
              go_wp2
              go_ret2
              exact F.out
      · have te : ((e : Int) != 0) = true := by simp; omega
        have F := hid (BAD.out e (dec_e1 h0'.out HR.out he) he _ HB.out)
        clear BAD HD
        go_wp2_with fail
        refine C1.out.mono ?_
        rintro e w1 ⟨rfl, rfl⟩
        rw [RdV3]
        go_wp2
        go_ret2
        exact F.out
theorem dec_walk (a : Option Addr) (n cap : Nat) (bs : List Nat) (hbs : ∀ d ∈ bs, d < 256) (hn : n ≤ 140737488351232) (w : World) (h : Sl .u8 w a n cap bs) :
    Calls Tryz.prog 47 #[.slice a n cap] w (DecRes w bs) := (dec_walk2 a n cap bs hbs hn w h).mono fun _ _ h => h.one
end Go.Proofs.YtnophelfpoldfaaGreatDoor
