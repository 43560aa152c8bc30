/- What a slice of numbers reads as; small facts that the walks want. -/
import Derived.Test.YtgaidleepjkldaaDoorChecked
import Derived.WalkKit
import Derived.WalkSpells
import Derived.WalkLawsBesides
import Derived.Deep.QuietTactic
import Derived.BigQuiet
import Derived.Laws.AppendOwnNone
import Derived.RegionTactic
import Derived.BigRegion
import Derived.Laws.BytesArg
import Derived.Maps.AppendAt
import Derived.Deep.AppendLies
import Derived.Deep.RegionHeld3
import Derived.Deep.MidRow
import Derived.Laws.Tables
import Derived.Lib.LazyBuf
import Derived.Laws.CopyOwn
import Derived.Deep.Cut
import Derived.Great.BuildSlice
import Derived.Stop.BytesEq
import Derived.Maps.OwnSet
namespace Go.Proofs.YtgaidleepjkldaaDoor
open Go.RowKit

theorem hid {p : Prop} (h : p) : Hid p := h

/-- the world is as it was, but for draws -/
def Qt (w w' : World) : Prop := ∃ q, w' = w.drewN q
theorem Qt.refl (w : World) : Qt w w := ⟨0, rfl⟩
theorem Qt.dN {w v : World} (h : Qt w v) (n : Nat) : Qt w (v.drewN n) := by obtain ⟨q, rfl⟩ := h; exact ⟨q + n, World.drewN_drewN _ _ _⟩
theorem Qt.d {w v : World} (h : Qt w v) : Qt w v.drew := h.dN 1
theorem Qt.trans {u v w : World} (h : Qt u v) (k : Qt v w) : Qt u w := by obtain ⟨q, rfl⟩ := k; exact h.dN q
theorem Qt.below {w w' : World} (h : Qt w w') (B : Nat) : Below B w w' := by obtain ⟨q, rfl⟩ := h; exact below_drewN (Below.refl _ _) q

/-- at a call of a region that only reads: a contract 'w = w'', 'Qt w w'' -/
theorem quiet_same {P : Program} {f : FuncId} {args : Array Value} {w : World} {n : Nat} {v : Value}
    (h : Calls P f args (w.drewN n) fun e w' => e = .returned v ∧ w.drewN n = w') : Calls P f args (w.drewN n) fun e w'' => e = .returned v ∧ ∃ m, w'' = w.drewN m :=
  h.mono fun _ _ ⟨he, hm⟩ => ⟨he, n, hm.symm⟩
theorem quiet_qt {P : Program} {f : FuncId} {args : Array Value} {w : World} {n : Nat} {v : Value}
    (h : Calls P f args (w.drewN n) fun e w' => e = .returned v ∧ Qt (w.drewN n) w') : Calls P f args (w.drewN n) fun e w'' => e = .returned v ∧ ∃ m, w'' = w.drewN m :=
  h.mono fun _ _ ⟨he, q, hm⟩ => ⟨he, n + q, by rw [hm, World.drewN_drewN]⟩
theorem bstep {u v w : World} (h : Below u.heap.size u v) (k : Below v.heap.size v w) : Below u.heap.size u w := h.trans (k.mono h.size)

/-- a slice (address a, n elements of 'size' cells, room for cap) whose cells read as news -/
def Rd (w : World) (size : Nat) (a : Option Addr) (n cap : Nat) (news : List Value) : Prop :=
  news.length = n * size ∧ n ≤ cap ∧ cap ≤ maxLen ∧ (a = none → cap = 0) ∧ ∃ b off, (0 < n → a = some ⟨b, off, none⟩) ∧ ∀ j u, news[j]? = some u → w.cell? ⟨b, off + j, none⟩ = some u
def RdV (w : World) (size : Nat) (v : Value) (news : List Value) : Prop := ∃ a n cap, v = .slice a n cap ∧ Rd w size a n cap news
def nums (k : IntKind) (xs : List Nat) : List Value := xs.map (fun (d : Nat) => Value.int k (d : Int))
@[simp] theorem nums_length (k : IntKind) (xs : List Nat) : (nums k xs).length = xs.length := by simp [nums]
theorem nums_snoc (k : IntKind) {xs : List Nat} {z : Int} {d : Nat} (h : z = (d : Int)) : nums k xs ++ [Value.int k z] = nums k (xs ++ [d]) := by subst h; simp [nums]
theorem nums_append (k : IntKind) (xs ys : List Nat) : nums k xs ++ nums k ys = nums k (xs ++ ys) := by simp [nums]
theorem nums_get (k : IntKind) {xs : List Nat} {j : Nat} (h : j < xs.length) : (nums k xs)[j]? = some (.int k ((xs.getD j 0 : Nat) : Int)) := by simp [nums, List.getElem?_eq_getElem h]
theorem nums_replicate (k : IntKind) (n : Nat) : nums k (List.replicate n 0) = List.replicate n (.int k 0) := by simp [nums]
/-- a slice of numbers -/
def Sl (k : IntKind) (w : World) (a : Option Addr) (n cap : Nat) (xs : List Nat) : Prop := Rd w 1 a n cap (nums k xs)
def SlV (k : IntKind) (w : World) (v : Value) (xs : List Nat) : Prop := ∃ a cap, v = .slice a xs.length cap ∧ Sl k w a xs.length cap xs

theorem Sl.len {k : IntKind} {w : World} {a : Option Addr} {n cap : Nat} {xs : List Nat} (h : Sl k w a n cap xs) : xs.length = n := by have := h.1; simpa using this
theorem Sl.opened {k : IntKind} {w : World} {a : Option Addr} {n cap : Nat} {xs : List Nat} (h : Sl k w a n cap xs) :
    ∃ b off, (0 < n → a = some ⟨b, off, none⟩) ∧ ∀ j, j < n → w.cell? ⟨b, off + j, none⟩ = some (.int k ((xs.getD j 0 : Nat) : Int)) := by
  have hl := h.len
  obtain ⟨_, _, _, _, b, off, ha, hc⟩ := h
  exact ⟨b, off, ha, fun j hj => hc j _ (nums_get k (by omega))⟩
theorem Rd.below {w w' : World} {size : Nat} {a : Option Addr} {n cap : Nat} {xs : List Value} (h : Rd w size a n cap xs) (hb : Below w.heap.size w w') : Rd w' size a n cap xs := by
  obtain ⟨h1, h2, h3, h4, b, off, ha, hc⟩ := h
  refine ⟨h1, h2, h3, h4, b, off, ha, fun j u hu => ?_⟩
  have := hc j u hu
  rw [hb.cell (World.block_lt_of_cell? w _ this)]
  exact this
theorem Sl.below {k : IntKind} {w w' : World} {a : Option Addr} {n cap : Nat} {xs : List Nat} (h : Sl k w a n cap xs) (hb : Below w.heap.size w w') : Sl k w' a n cap xs := Rd.below h hb
theorem SlV.below {k : IntKind} {w w' : World} {v : Value} {xs : List Nat} (h : SlV k w v xs) (hb : Below w.heap.size w w') : SlV k w' v xs := by
  obtain ⟨a, cap, rfl, h1⟩ := h
  exact ⟨a, cap, rfl, h1.below hb⟩
theorem RdV.below {w w' : World} {size : Nat} {v : Value} {xs : List Value} (h : RdV w size v xs) (hb : Below w.heap.size w w') : RdV w' size v xs := by
  obtain ⟨a, n, cap, rfl, h1⟩ := h
  exact ⟨a, n, cap, rfl, h1.below hb⟩
theorem Sl.toV {k : IntKind} {w : World} {a : Option Addr} {n cap : Nat} {xs : List Nat} (h : Sl k w a n cap xs) : SlV k w (.slice a n cap) xs := ⟨a, cap, by rw [h.len], by rw [h.len]; exact h⟩
theorem Rd.of_owns {w : World} {B : Nat} {e : TypeId} {size : Nat} {v : Value} {n : Nat} {xs : List Value} (h : w.ownsRow B e size v n xs) : ∃ a cap, v = .slice a n cap ∧ Rd w size a n cap xs := by
  rcases h.2 with ⟨rfl, rfl⟩ | ⟨g, cap, cur, rfl, _, hg, hn, hm, hs, ht⟩
  · have : xs = [] := List.eq_nil_of_length_eq_zero (by simpa using h.1)
    subst this
    exact ⟨none, 0, rfl, by simp, by simp, by simp, fun _ => rfl, 0, 0, by simp, by simp⟩
  · refine ⟨_, cap, rfl, h.1, hn, hm, (fun e => by cases e), g, 0, fun _ => rfl, fun j u hj => ?_⟩
    have := h.cells (g := g) rfl j u hj
    have hadd : (⟨g, 0, none⟩ : Addr).add j = ⟨g, j, none⟩ := by unfold Addr.add; split <;> simp_all
    rw [hadd] at this
    simpa using this
theorem SlV.of_owns {k : IntKind} {w : World} {B : Nat} {e : TypeId} {v : Value} {n : Nat} {xs : List Nat} (h : w.ownsRow B e 1 v n (nums k xs)) : SlV k w v xs := by
  have hl : xs.length = n := by have := h.1; simpa using this
  subst hl
  obtain ⟨a, cap, rfl, hr⟩ := Rd.of_owns h
  exact ⟨a, cap, rfl, hr⟩
theorem Sl.nilS (k : IntKind) (w : World) {a : Option Addr} {cap : Nat} (h : cap ≤ maxLen) (h' : a = none → cap = 0) : Sl k w a 0 cap [] := ⟨rfl, by omega, h, h', 0, 0, by simp, by simp [nums]⟩
/-- a piece of a slice that begins where it begins -/
theorem Sl.take {k : IntKind} {w : World} {a : Option Addr} {n cap m : Nat} {xs : List Nat} (h : Sl k w a n cap xs) (hm : m ≤ n) : Sl k w a m cap (xs.take m) := by
  have hl := h.len
  obtain ⟨_, h2, h3, h4, b, off, ha, hc⟩ := h
  refine ⟨by simp; omega, by omega, h3, h4, b, off, fun h => ha (by omega), fun j u hu => hc j u ?_⟩
  rw [nums, List.map_take, List.getElem?_take] at hu
  split at hu
  · exact hu
  · cases hu

/-- a new block that a literal slice lies in -/
theorem own_new (w : World) (us : Array Value) (e : TypeId) {size n B : Nat} (hn : us.size = n * size) (hB : B ≤ w.heap.size) (hm : n ≤ maxLen) : (w.alloc (.cells us e)).ownsRow B e size (.slice (some ⟨w.heap.size, 0, none⟩) n n) n us.toList :=
  ⟨by simpa using hn, .inr ⟨w.heap.size, n, us, rfl, hB, heap_alloc_new w _, Nat.le_refl _, hm, hn, List.take_of_length_le (by rw [Array.length_toList, hn]; exact Nat.le_refl _)⟩⟩
theorem sl_of_own {k : IntKind} {e : TypeId} {w : World} {B : Nat} {a : Option Addr} {n cap : Nat} {os : List Nat} (h : w.ownsRow B e 1 (.slice a n cap) n (nums k os)) : Sl k w a n cap os := by
  obtain ⟨a', cap', he, hr⟩ := Rd.of_owns h
  simp only [Value.slice.injEq, true_and] at he
  obtain ⟨rfl, rfl⟩ := he
  exact hr
theorem own_lit (k : IntKind) (w : World) (us : Array Value) (e : TypeId) {n B : Nat} (xs : List Nat) (hn : us.size = n) (hus : us.toList = nums k xs) (hB : B ≤ w.heap.size) (hm : n ≤ maxLen) : (w.alloc (.cells us e)).ownsRow B e 1 (.slice (some ⟨w.heap.size, 0, none⟩) n n) n (nums k xs) := by
  rw [← hus]; exact own_new w us e (by omega) hB hm
theorem sl_lit (k : IntKind) (w : World) (us : Array Value) (e : TypeId) {n : Nat} (xs : List Nat) (hn : us.size = n) (hus : us.toList = nums k xs) (hm : n ≤ maxLen) : Sl k (w.alloc (.cells us e)) (some ⟨w.heap.size, 0, none⟩) n n xs :=
  sl_of_own (own_lit k w us e xs hn hus (Nat.le_refl _) hm)
theorem own_snoc {k : IntKind} {e : TypeId} {w : World} {B : Nat} {v : Value} {xs : List Nat} {z : Int} {d : Nat} (h : w.ownsRow B e 1 v (xs.length + 1) (nums k xs ++ [Value.int k z])) (hz : z = (d : Int)) : w.ownsRow B e 1 v (xs ++ [d]).length (nums k (xs ++ [d])) := by
  rw [nums_snoc k hz] at h; simpa using h
/-- a row of the call's own that is known to begin a block: its cells, a store -/
theorem own_cell {k : IntKind} {e : TypeId} {w : World} {B : Nat} {g n cap : Nat} {os : List Nat} (h : w.ownsRow B e 1 (.slice (some ⟨g, 0, none⟩) n cap) n (nums k os)) (j : Nat) (hj : j < n) : w.cell? ⟨g, j, none⟩ = some (.int k ((os.getD j 0 : Nat) : Int)) := by
  have hl : os.length = n := by have := h.1; simpa using this
  rw [h.cellAt j (by omega)]
  exact nums_get k (by omega)
theorem own_store {k : IntKind} {e : TypeId} {w : World} {B : Nat} {g n cap : Nat} {os : List Nat} (h : w.ownsRow B e 1 (.slice (some ⟨g, 0, none⟩) n cap) n (nums k os)) (j : Nat) {z : Int} {d : Nat} (hz : z = (d : Int)) :
    (w.setCell ⟨g, j, none⟩ (.int k z)).ownsRow B e 1 (.slice (some ⟨g, 0, none⟩) n cap) n (nums k (os.set j d)) ∧ Below B w (w.setCell ⟨g, j, none⟩ (.int k z)) := by
  subst hz
  have := h.stored j (.int k (d : Int))
  refine ⟨by simpa [nums, List.map_set] using this.1, (Below.refl B w).setCell ?_ _⟩
  exact (h.lt g rfl).1

/-- a slice type's rows of the program's tables: type t, a slice of e; an element has 'size' cells, 'bytes' bytes, the zero value z -/
structure SliceTy (P : Program) (t e : TypeId) (size bytes : Nat) (z : Value) : Prop where
  ex : ∃ i, P.underlying t = some (.slice e) ∧ P.info? e = some i ∧ i.zero = some z ∧ i.size = size ∧ i.bytes = bytes
  zs : z.cells.size = size
  pos : 0 < size
theorem SliceTy.mk' {P : Program} {t e : TypeId} {z : Value} {size bytes : Nat} (ht : P.underlying t = some (.slice e)) (h : (P.info? e).map (fun i => (i.zero, i.size, i.bytes)) = some (some z, size, bytes)) (zs : z.cells.size = size) (pos : 0 < size) : SliceTy P t e size bytes z := by
  obtain ⟨i, h1, h2, h3, h4⟩ := info_parts h
  exact ⟨⟨i, ht, h1, h2, h3, h4⟩, zs, pos⟩

theorem cells_new (w : World) (us : Array Value) (e : TypeId) : ∀ j u, us.toList[j]? = some u → (w.alloc (.cells us e)).cell? ((⟨w.heap.size, 0, none⟩ : Addr).add j) = some u := by
  intro j u hu
  have hadd : (⟨w.heap.size, 0, none⟩ : Addr).add j = ⟨w.heap.size, j, none⟩ := by unfold Addr.add; split <;> simp_all
  rw [hadd, cell_of_row (w.alloc (.cells us e)) w.heap.size j us e (0, 0) (heap_alloc_new w _)]
  simpa using hu

/-- 'append(s, x)': s nil or the call's own; x lies in a block of its own -/
theorem wpList_push {P : Program} {ops : Array Oper} {rest : List Oper} {o : Oper} {a : Act} {Q : Exit → Act → World → Prop} {w : World} (hgd : o.guard = none) (s x : Operand) (t : TypeId)
    (ho : o.op = .call { callee := .builtin .append, args := #[s, x], argTypes := #[t, t] })
    {e : TypeId} {size bytes : Nat} {z : Value} (ty : SliceTy P t e size bytes z) (B : Nat) {v : Value} {n : Nat} {xs : List Value} (hown : w.ownsRow B e size v n xs) (hs : a.eval s = v)
    {us : Array Value} {et : TypeId} (hx : a.eval x = .slice (some ⟨w.heap.size, 0, none⟩) 1 1) (hl : us.size = size) (h1 : us.toList.all Value.oneCell' = true) (hn : n < 4294967296) (hby : bytes ≤ 16384) (hB : B ≤ w.heap.size)
    (h : ∀ v' w', w'.ownsRow B e size v' (n + 1) (xs ++ us.toList) → Below B w w' → w.heap.size < w'.heap.size → v' ≠ .slice none 0 0 → wpList P ops Q rest (a.put o.dst v') w') : wpList P ops Q (o :: rest) a (w.alloc (.cells us et)) := by
  obtain ⟨i, ht, hi, hz, hsz, hb⟩ := ty.ex
  refine wpList_append_own _ hgd s x t ho B e i z size bytes ht hi hz hsz hb ty.zs ty.pos v n xs hs (hown.alloc _) ⟨w.heap.size, 0, none⟩ 1 1 us.toList hx (by simp [hl]) (cells_new w us et) (fun u hu => List.all_eq_true.1 h1 u hu) ?_ ?_ (by simp; omega) ?_
  · unfold maxLen; omega
  · have : (n + 1) * bytes ≤ 4294967296 * 16384 := Nat.mul_le_mul (by omega) hby
    omega
  · intro v' w' h2 h3 h4
    have hsz := h3.size
    simp at hsz
    refine h v' w' h2 ?_ (by omega) (fun hv => by have := h4.1 hv; simp at this)
    exact ((Below.refl B w).alloc hB _).grown h3 (by simp; omega) (fun k hk => (hown.lt k hk).1)

theorem madeCells_one (z : Value) (hz : z.cells = #[z]) (N : Nat) : (madeCells z.cells (N * 1)).toList = List.replicate N z := by
  rw [hz, Nat.mul_one]
  simp [madeCells, List.eq_replicate_iff, Nat.mod_one]

/-- 'make([]T, N)', N a number that the walk has reckoned; T of one cell -/
theorem wpList_mk {P : Program} {w : World} {ops : Array Oper} {rest : List Oper} {o : Oper} {a : Act} {Q : Exit → Act → World → Prop} (hg : o.guard = none) (l c : Operand) (t : TypeId) (hop : o.op = Op.makeSlice t l c)
    {e : TypeId} {bytes : Nat} {z : Value} (ty : SliceTy P t e 1 bytes z) (hz1 : z.cells = #[z]) (B N : Nat) {kl kc : IntKind} {L C : Int} (hl : a.eval l = .int kl L) (hc : a.eval c = .int kc C) (hL : L = (N : Int)) (hC : C = (N : Int))
    (hN : N < 4294967296) (hby : bytes ≤ 16384) (hB : B ≤ w.heap.size)
    (hK : ∀ w', w'.ownsRow B e 1 (.slice (some ⟨w.heap.size, 0, none⟩) N N) N (List.replicate N z) → Below B w w' → w.heap.size < w'.heap.size → wpList P ops Q rest (a.put o.dst (.slice (some ⟨w.heap.size, 0, none⟩) N N)) w') :
    wpList P ops Q (o :: rest) a w := by
  obtain ⟨i, ht, hi, hz, hsz, hb⟩ := ty.ex
  refine wpList_make_full w hg l c t hop B e i z 1 ht hi hz hsz kl kc L C N hl hc hL hC ?_ ?_ hB ?_
  · rw [hb]
    have : bytes * N ≤ 16384 * 4294967296 := Nat.mul_le_mul hby (by omega)
    omega
  · unfold maxLen; omega
  · intro w' h1 h2
    rw [madeCells_one z hz1] at h1
    exact hK w' h1 ((Below.refl B w).grown h2 hB (fun k hk => by cases hk)) ((h1.lt _ rfl).2)

/-- 'append(s, x...)': s nil or the call's own; x whatever slice that can be read -/
theorem wpList_cat {P : Program} {ops : Array Oper} {rest : List Oper} {o : Oper} {a : Act} {Q : Exit → Act → World → Prop} {w : World} (hgd : o.guard = none) (s x : Operand) (t : TypeId)
    (ho : o.op = .call { callee := .builtin .append, args := #[s, x], argTypes := #[t, t] })
    {e : TypeId} {size bytes : Nat} {z : Value} (ty : SliceTy P t e size bytes z) (B : Nat) {v : Value} {n : Nat} {xs : List Value} (hown : w.ownsRow B e size v n xs) (hs : a.eval s = v)
    {ad : Option Addr} {m c : Nat} {news : List Value} (hx : a.eval x = .slice ad m c) (hrd : Rd w size ad m c news) (h1 : ∀ u ∈ news, u.oneCell' = true) (hn : (n + m) * bytes ≤ 140737488355328) (hn' : n + m ≤ maxLen) (hB : B ≤ w.heap.size)
    (h : ∀ v' w', w'.ownsRow B e size v' (n + m) (xs ++ news) → Below B w w' → w.heap.size ≤ w'.heap.size → (v ≠ .slice none 0 0 → v' ≠ .slice none 0 0) → wpList P ops Q rest (a.put o.dst v') w') : wpList P ops Q (o :: rest) a w := by
  obtain ⟨i, ht, hi, hz, hsz, hb⟩ := ty.ex
  obtain ⟨r1, r2, r3, r4, b, off, ha, hc⟩ := hrd
  cases ad with
  | none =>
    have hc0 := r4 rfl
    subst hc0
    obtain rfl : m = 0 := by omega
    have hnil : news = [] := List.eq_nil_of_length_eq_zero (by simpa using r1)
    subst hnil
    refine wpList_append_own_none hgd s x t ho B e i size ht hi v n xs hs hown hx ?_
    exact h v w (by simpa using hown) (Below.refl _ _) (Nat.le_refl _) id
  | some ad =>
    refine wpList_append_own _ hgd s x t ho B e i z size bytes ht hi hz hsz hb ty.zs ty.pos v n xs hs hown ad m c news hx r1 ?_ h1 hn' hn hB ?_
    · intro j u hu
      have hm : 0 < m := by
        rcases Nat.eq_zero_or_pos m with h0 | h0
        · subst h0
          have hnil : news = [] := List.eq_nil_of_length_eq_zero (by simpa using r1)
          subst hnil
          simp at hu
        · exact h0
      have := ha hm
      simp only [Option.some.injEq] at this
      subst this
      have hadd : (⟨b, off, none⟩ : Addr).add j = ⟨b, off + j, none⟩ := by unfold Addr.add; split <;> simp_all
      rw [hadd]
      exact hc j u hu
    · intro v' w' h2 h3 h4
      exact h v' w' h2 ((Below.refl B w).grown h3 hB (fun k hk => (hown.lt k hk).1)) h3.size (fun hv hv' => hv (h4.1 hv').1)
theorem nums_oneCell (k : IntKind) (xs : List Nat) : ∀ u ∈ nums k xs, u.oneCell' = true := by
  intro u hu
  simp only [nums, List.mem_map] at hu
  obtain ⟨d, _, rfl⟩ := hu
  rfl

theorem own_below {w w' : World} {B : Nat} {e : TypeId} {size : Nat} {v : Value} {n : Nat} {xs : List Value} (h : w.ownsRow B e size v n xs) (hb : Below w.heap.size w w') : w'.ownsRow B e size v n xs := by
  refine ⟨h.1, ?_⟩
  rcases h.2 with hn | ⟨g, cap, cur, rfl, hb0, hg, rest⟩
  · exact .inl hn
  · exact .inr ⟨g, cap, cur, rfl, hb0, by rw [hb.block g (Array.getElem?_eq_some_iff.1 hg).1]; exact hg, rest⟩
theorem own_mono {w : World} {B B' : Nat} {e : TypeId} {size : Nat} {v : Value} {n : Nat} {xs : List Value} (h : w.ownsRow B e size v n xs) (hB : B' ≤ B) : w.ownsRow B' e size v n xs := by
  refine ⟨h.1, ?_⟩
  rcases h.2 with hn | ⟨g, cap, cur, rfl, hb0, rest⟩
  · exact .inl hn
  · exact .inr ⟨g, cap, cur, rfl, by omega, rest⟩
/-- a row of another type is not what has grown -/
theorem own_grew {w w' : World} {B B' : Nat} {e e' : TypeId} {size size' : Nat} {v v' : Value} {n n' : Nat} {xs xs' : List Value} (h : w.ownsRow B e size v n xs) (k : w.ownsRow B' e' size' v' n' xs') (he : e ≠ e') (hg : w.grownBy w' v'.ownBlock) : w'.ownsRow B e size v n xs := by
  refine ⟨h.1, ?_⟩
  rcases h.2 with hn | ⟨g, cap, cur, rfl, hb0, hgc, rest⟩
  · exact .inl hn
  · refine .inr ⟨g, cap, cur, rfl, hb0, ?_, rest⟩
    rw [hg.block g (Array.getElem?_eq_some_iff.1 hgc).1]
    · exact hgc
    · intro hb
      rcases k.2 with ⟨rfl, _⟩ | ⟨g', cap', cur', rfl, _, hgc', _⟩
      · simp [Value.ownBlock] at hb
      · simp [Value.ownBlock] at hb
        subst hb
        rw [hgc] at hgc'
        simp at hgc'
        exact he hgc'.2
theorem own_addr {w : World} {B : Nat} {e : TypeId} {size n m cap : Nat} {a : Option Addr} {xs : List Value} (h : w.ownsRow B e size (.slice a n cap) m xs) (hn : 0 < n) : ∃ g, a = some ⟨g, 0, none⟩ ∧ n ≤ cap := by
  rcases h.2 with ⟨h', _⟩ | ⟨g, cap', cur, h', _, _, hnc, _⟩
  · simp at h'; omega
  · simp at h'
    obtain ⟨rfl, rfl, rfl⟩ := h'
    exact ⟨g, rfl, hnc⟩
theorem own_of_heap {w : World} {g n B : Nat} {arr : Array Value} {e : TypeId} {L : List Value} (h : w.heap[g]? = some (.cells arr e (0, 0))) (hl : arr.toList = L) (hn : L.length = n) (hB : B ≤ g) (hm : n ≤ maxLen) : w.ownsRow B e 1 (.slice (some ⟨g, 0, none⟩) n n) n L :=
  ⟨by omega, .inr ⟨g, n, arr, rfl, hB, h, Nat.le_refl _, hm, by rw [← Array.length_toList, hl]; omega, by rw [hl]; exact List.take_of_length_le (by omega)⟩⟩
/-- all but block H is as it was (new blocks may be there) -/
def Far (H : Nat) (w w' : World) : Prop := w.grownBy w' (some H)
theorem Far.refl (H : Nat) (w : World) : Far H w w := ⟨rfl, rfl, rfl, Nat.le_refl _, fun _ _ _ => rfl⟩
theorem Far.trans {H : Nat} {u v w : World} (h : Far H u v) (k : Far H v w) : Far H u w :=
  ⟨k.os.trans h.os, k.tape.trans h.tape, k.output.trans h.output, Nat.le_trans h.size k.size, fun i hi hn => (k.block i (Nat.lt_of_lt_of_le hi h.size) hn).trans (h.block i hi hn)⟩
theorem Far.of {H : Nat} {w w' : World} (h : Below w.heap.size w w') : Far H w w' := ⟨h.os, h.tape, h.output, h.size, fun i hi _ => h.block i hi⟩
theorem Far.set {H j : Nat} {w : World} (u : Value) : Far H w (w.setCell ⟨H, j, none⟩ u) :=
  have h := (Below.refl 0 w).setCell (p := ⟨H, j, none⟩) (Nat.zero_le _) u
  ⟨h.os, h.tape, h.output, h.size, fun i _ hn => Below.heap_setCell w _ u i (by simpa using hn)⟩
theorem Far.below {H B : Nat} {w w' : World} (h : Far H w w') (hB : B ≤ H) (hB' : B ≤ w.heap.size) : Below B w w' := ⟨h.os, h.tape, h.output, h.size, fun i hi => h.block i (by omega) (by simp; omega)⟩
theorem Far.rd {H : Nat} {w w' : World} {size : Nat} {a : Option Addr} {n cap : Nat} {xs : List Value} (h : Rd w size a n cap xs) (hf : Far H w w') (hne : ∀ b off, a = some ⟨b, off, none⟩ → b ≠ H) : Rd w' size a n cap xs := by
  obtain ⟨h1, h2, h3, h4, b, off, ha, hc⟩ := h
  refine ⟨h1, h2, h3, h4, b, off, ha, fun j u hu => ?_⟩
  have hc' := hc j u hu
  have hj : 0 < n := by
    rcases Nat.eq_zero_or_pos n with h0 | h0
    · subst h0
      have := (List.getElem?_eq_some_iff.1 hu).1
      omega
    · exact h0
  rw [World.cell?_of_block (hf.block b (World.block_lt_of_cell? w _ hc') (by simpa using hne b off (ha hj)))]
  exact hc'
theorem Far.own {H : Nat} {w w' : World} {B : Nat} {e : TypeId} {size : Nat} {v : Value} {n : Nat} {xs : List Value} (h : w.ownsRow B e size v n xs) (hf : Far H w w') (hne : v.ownBlock ≠ some H) : w'.ownsRow B e size v n xs := by
  refine ⟨h.1, ?_⟩
  rcases h.2 with hn | ⟨g, cap, cur, rfl, hb0, hg, rest⟩
  · exact .inl hn
  · refine .inr ⟨g, cap, cur, rfl, hb0, ?_, rest⟩
    rw [hf.block g (Array.getElem?_eq_some_iff.1 hg).1 (by simpa [Value.ownBlock] using hne)]
    exact hg

end Go.Proofs.YtgaidleepjkldaaDoor

/- Slices of bytes: their type's rows, strings made of them. -/
namespace Go.Proofs.YtgaidleepjkldaaDoor
open Go.RowKit

theorem infoU8 : (Tryd.prog.info? 5).map (fun i => (i.zero, i.size, i.bytes)) = some (some (.int .u8 0), 1, 1) := by kernel_rfl
theorem tyBs : SliceTy Tryd.prog 26 5 1 1 (.int .u8 0) := .mk' Tryd.underlying26 infoU8 rfl (by decide)

def bytesOf (xs : List Nat) : ByteArray := strOfNums (xs.map (fun (d : Nat) => (d : Int)))
theorem conv_bytes {P : Program} {w : World} {a : Option Addr} {n cap : Nat} {xs : List Nat} (h : Sl .u8 w a n cap xs) {src e dst : TypeId} (hs : P.underlying src = some (.slice e)) (he : P.underlying e = some (.int .u8)) (hd : P.underlying dst = some .string) :
    (convert src dst (.slice a n cap)).run P w = .ok (.string (bytesOf xs)) w := by
  have hl := h.len
  have h2 := h.2.1
  have h4 := h.2.2.2.1
  obtain ⟨b, off, ha, hc⟩ := h.opened
  cases a with
  | none =>
    have := h4 rfl
    obtain rfl : n = 0 := by omega
    have hx : xs = [] := List.eq_nil_of_length_eq_zero hl
    subst hx
    exact run_convert_bytes_nil w src e hs he 0 cap dst hd
  | some x =>
    rcases Nat.eq_zero_or_pos n with h0 | h0
    · subst h0
      have hx : xs = [] := List.eq_nil_of_length_eq_zero hl
      subst hx
      have hld := run_loadCells_list (P := P) w x [] (fun j v hj => by simp at hj)
      rw [run_convert_bytes_string w src dst e _ 0 cap hs he hd, run_bytesToString w x 0 cap [] hld]
      rfl
    · have := ha h0
      simp only [Option.some.injEq] at this
      subst this
      refine run_convert_bytes_arg w src e hs he b off n cap _ (by simpa using hl) (fun i hi => ?_) dst hd
      rw [hc i hi]
      simp [List.getElem?_eq_getElem (show i < xs.length by omega)]
theorem bytesOf_toList (xs : List Nat) : (bytesOf xs).toList = xs.map (fun d => UInt8.ofNat d) := by
  rw [ByteArray.toList_eq]
  simp [bytesOf, strOfNums, List.map_map]
theorem map_u8_inj {xs ys : List Nat} (hx : ∀ d ∈ xs, d < 256) (hy : ∀ d ∈ ys, d < 256) (h : xs.map (fun d => UInt8.ofNat d) = ys.map (fun d => UInt8.ofNat d)) : xs = ys := by
  induction xs generalizing ys with
  | nil => cases ys with
    | nil => rfl
    | cons y r => simp at h
  | cons x r ih => cases ys with
    | nil => simp at h
    | cons y t =>
      simp only [List.map_cons, List.cons.injEq] at h
      have h1 := hx x (by simp)
      have h2 := hy y (by simp)
      have h3 : x = y := by
        have := congrArg UInt8.toNat h.1
        simp at this
        omega
      rw [h3, ih (fun d hd => hx d (by simp [hd])) (fun d hd => hy d (by simp [hd])) h.2]
theorem bytesOf_eq {xs ys : List Nat} (hx : ∀ d ∈ xs, d < 256) (hy : ∀ d ∈ ys, d < 256) : ((bytesOf xs).toList == (bytesOf ys).toList) = decide (xs = ys) := by
  rw [bytesOf_toList, bytesOf_toList, Bool.eq_iff_iff, beq_iff_eq, decide_eq_true_eq]
  exact ⟨map_u8_inj hx hy, fun h => by rw [h]⟩

theorem same_walk (a a' : Option Addr) (n cap m cap' : Nat) (xs ys : List Nat) (hx : ∀ d ∈ xs, d < 256) (hy : ∀ d ∈ ys, d < 256) (w : World) (h : Sl .u8 w a n cap xs) (h' : Sl .u8 w a' m cap' ys) :
    Calls Tryd.prog 10 #[.slice a n cap, .slice a' m cap'] w fun e w' => e = .returned (.bool (decide (xs = ys))) ∧ w = w' := by
  have c1 := conv_bytes h Tryd.underlying26 Tryd.underlying5 Tryd.underlying9
  have c2 := conv_bytes h' Tryd.underlying26 Tryd.underlying5 Tryd.underlying9
  have e := hid (bytesOf_eq hx hy)
  clear h h'
  go_enter Tryd.func10, Tryd.ntmps10
  go_wp2
  go_ret
  exact ⟨by rw [← e.out]; rfl, rfl⟩
theorem same_self (a a' : Option Addr) (n cap m cap' : Nat) (xs : List Nat) (hx : ∀ d ∈ xs, d < 256) (w : World) (h : Sl .u8 w a n cap xs) (h' : Sl .u8 w a' m cap' xs) :
    Calls Tryd.prog 10 #[.slice a n cap, .slice a' m cap'] w fun e w' => e = .returned (.bool true) ∧ w = w' := by
  refine (same_walk a a' n cap m cap' xs xs hx hx w h h').mono ?_
  rintro e w' ⟨rfl, rfl⟩
  exact ⟨by rw [decide_eq_true rfl], rfl⟩
def CopyRes (w : World) (xs : List Nat) (e : Ending) (w' : World) : Prop := ∃ v, e = .returned v ∧ v ≠ .slice none 0 0 ∧ w'.ownsRow w.heap.size 5 1 v xs.length (nums .u8 xs) ∧ Below w.heap.size w w'
theorem copy_walk (a : Option Addr) (n cap : Nat) (xs : List Nat) (hn : n ≤ 140737488355328) (w : World) (h : Sl .u8 w a n cap xs) :
    Calls Tryd.prog 11 #[.slice a n cap] w (CopyRes w xs) := by
  have HL := hid h.len
  have O1 := hid (World.ownsRow_made (base := w.heap.size) (e := 5) (size := 1) w #[] 0 (Nat.le_refl _) (by simp) (by simp))
  have bb := (Below.refl w.heap.size w).alloc (Nat.le_refl _) (.cells #[] 5)
  have S1 := hid (h.below bb)
  clear h
  go_enter Tryd.func11, Tryd.ntmps11
  go_wp2_with (at_builtin; refine wpList_cat rfl _ _ 26 rfl tyBs w.heap.size O1.out rfl rfl S1.out (nums_oneCell _ _) ?c1 ?c2 ?c3 ?_)
  case c1 => omega
  case c2 => unfold maxLen; omega
  case c3 => simp
  intro v2 w2 hown2 hb2 hs2 hne
  have b2 := bb.trans hb2
  have hown3 : w2.ownsRow w.heap.size 5 1 v2 xs.length (nums .u8 xs) := by rw [HL.out]; exact hown2
  have HN := hid hne
  clear hne hown2 hb2 hs2
  go_wp2
  go_ret
  exact ⟨_, rfl, HN.out, hown3, b2⟩
end Go.Proofs.YtgaidleepjkldaaDoor

/- Appends at an operation, and at a step of a region that draws its order. -/
namespace Go.Proofs.YtgaidleepjkldaaDoor
open Go.RowKit

/-- 'append(s, x...)' at an operation: what the new value owns, what stays as it was -/
theorem wp_cat {P : Program} {w : World} {o : Oper} {a : Act} {K : Act → World → Prop} {Q : Exit → Act → World → Prop} (s x : Operand) (t : TypeId)
    (ho : o.op = .call { callee := .builtin .append, args := #[s, x], argTypes := #[t, t] })
    {e : TypeId} {size bytes : Nat} {z : Value} (ty : SliceTy P t e size bytes z) (B : Nat) {v : Value} {n : Nat} {xs : List Value} (hown : w.ownsRow B e size v n xs) (hs : a.eval s = v)
    {ad : Option Addr} {m c : Nat} {news : List Value} (hx : a.eval x = .slice ad m c) (hrd : Rd w size ad m c news) (h1 : ∀ u ∈ news, u.oneCell' = true) (hn : (n + m) * bytes ≤ 140737488355328) (hn' : n + m ≤ maxLen) (hB : B ≤ w.heap.size)
    (h : ∀ v' w', w'.ownsRow B e size v' (n + m) (xs ++ news) → w.grownBy w' v.ownBlock → (v'.ownBlock = v.ownBlock ∨ v'.ownBlock = some w.heap.size) → K (a.put o.dst v') w') : o.wp P a w K Q := by
  obtain ⟨i, ht, hi, hz, hsz, hb⟩ := ty.ex
  obtain ⟨r1, r2, r3, r4, b, off, ha, hc⟩ := hrd
  cases ad with
  | none =>
    have hc0 := r4 rfl
    subst hc0
    obtain rfl : m = 0 := by omega
    have hnil : news = [] := List.eq_nil_of_length_eq_zero (by simpa using r1)
    subst hnil
    have hrun := run_append_owned_none (P := P) (w := w) B t o.type e i size ht hi v n xs hown
    unfold Oper.wp
    simp [execOp, ho, resolve, invoke, builtin, hs, hx, hrun, Result.andThen]
    exact h v w (by simpa using hown) ⟨rfl, rfl, rfl, Nat.le_refl _, fun _ _ _ => rfl⟩ (.inl rfl)
  | some ad =>
    obtain ⟨v', w', hr, h2, h3, _, h5⟩ := run_append_own_at (P := P) w B t o.type e i z size bytes ht hi hz hsz hb ty.zs ty.pos v n xs hown ad m c news r1 (by
      intro j u hu
      have hm : 0 < m := by
        rcases Nat.eq_zero_or_pos m with h0 | h0
        · subst h0
          have hnil : news = [] := List.eq_nil_of_length_eq_zero (by simpa using r1)
          subst hnil
          simp at hu
        · exact h0
      have := ha hm
      simp only [Option.some.injEq] at this
      subst this
      have hadd : (⟨b, off, none⟩ : Addr).add j = ⟨b, off + j, none⟩ := by unfold Addr.add; split <;> simp_all
      rw [hadd]
      exact hc j u hu) h1 hn' hn hB
    unfold Oper.wp execOp
    simp only [ho, resolve, invoke, builtin, Sem.run_bind, Sem.run_pure, Result.andThen_ok, List.map_toArray, List.map_cons, List.map_nil, hs, hx, hr]
    exact h v' w' h2 h3 h5
/-- the same at a step of a region that draws its order -/
theorem step_cat {P : Program} {w : World} {ops : Array Oper} {o : Oper} {a : Act} {K : Act → World → Prop} {Q : Exit → Act → World → Prop} {E : Prop} (hgd : o.guard = none) (s x : Operand) (t : TypeId)
    (ho : o.op = .call { callee := .builtin .append, args := #[s, x], argTypes := #[t, t] })
    {e : TypeId} {size bytes : Nat} {z : Value} (ty : SliceTy P t e size bytes z) (B : Nat) {v : Value} {n : Nat} {xs : List Value} (hown : w.ownsRow B e size v n xs) (hs : a.eval s = v)
    {ad : Option Addr} {m c : Nat} {news : List Value} (hx : a.eval x = .slice ad m c) (hrd : Rd w size ad m c news) (h1 : ∀ u ∈ news, u.oneCell' = true) (hn : (n + m) * bytes ≤ 140737488355328) (hn' : n + m ≤ maxLen) (hB : B ≤ w.heap.size)
    (h : ∀ v' w', w'.ownsRow B e size v' (n + m) (xs ++ news) → w.grownBy w' v.ownBlock → (v'.ownBlock = v.ownBlock ∨ v'.ownBlock = some w.heap.size) → K (a.put o.dst v') w') :
    if Region.wanted o (yielded ops a.tmps) = true then Oper.wp P o a w K Q else E := by
  have hw : Region.wanted o (yielded ops a.tmps) = true := by simp [Region.wanted, hgd]
  rw [if_pos hw]
  exact wp_cat s x t ho ty B hown hs hx hrd h1 hn hn' hB h
theorem rd_new1 (Y : World) (v : Value) (T : TypeId) : Rd (Y.alloc (.cells #[v] T)) 1 (some ⟨Y.heap.size, 0, none⟩) 1 1 [v] := by
  refine ⟨rfl, Nat.le_refl _, by decide, (fun e => by cases e), Y.heap.size, 0, fun _ => rfl, fun j u hu => ?_⟩
  match j, hu with
  | 0, hu =>
    simp at hu
    subst hu
    rw [cell_of_row _ _ _ _ _ (0, 0) (heap_alloc_new Y _)]; rfl
  | j + 1, hu => simp at hu
end Go.Proofs.YtgaidleepjkldaaDoor

/- Variables: blocks of cells, whole and in part; steps of a walk at them. -/
namespace Go.Proofs.YtgaidleepjkldaaDoor
open Go.RowKit

theorem results_cell_tmp {P : Program} {fn : Func} {p q : Tmp} {ty : TypeId} (h : fn.results = #[.cell p ty, .tmp q]) (tmps : Array Value) (w : World) (g : Nat) (t : TypeId) (cs : Array Value) (fr : Nat × Nat) (d : TypeDesc) (v : Value)
    (hp : tmps.getD p undef = .pointer (some ⟨g, 0, none⟩)) (hq : tmps.getD q undef = v) (hg : w.heap[g]? = some (.cells cs t fr))
    (hu : P.underlying ty = some d) (hd : (match d with | .struct _ | .array _ _ => true | _ => false) = true) (hi : (P.info? ty).map (·.size) = some cs.size) :
    (results fn tmps).run P w = .ok (.tuple #[.agg cs, v]) w := by
  have hp' : tmps[p]?.getD undef = .pointer (some ⟨g, 0, none⟩) := by simpa using hp
  have hq' : tmps[q]?.getD undef = v := by simpa using hq
  simp [results, h, hp', hq', asAddr, run_loadVar_row w g t ty cs fr d hg hu hd hi]

theorem wpList_build2 {P : Program} {ops : Array Oper} {rest : List Oper} {o : Oper} {a : Act} {w : World} {Q : Exit → Act → World → Prop} (hg : o.guard = none) (t : TypeId) (x y : Operand) (ho : o.op = .build t #[(0, x), (1, y)])
    {v0 v1 : Value} {cells : Array Value} (hb : P.built t [(0, v0), (1, v1)] = some cells) (hx : a.eval x = v0) (hy : a.eval y = v1)
    (h : wpList P ops Q rest (a.put o.dst (.agg cells)) w) : wpList P ops Q (o :: rest) a w := by
  have hv : ((#[(0, x), (1, y)] : Array (Nat × Operand)).map fun (i, x) => (i, a.eval x)).toList = [(0, v0), (1, v1)] := by simp [hx, hy]
  exact wpList_build hg t _ ho (by rw [hv, hb]; rfl) (by rw [hv, hb]; exact h)
theorem wpList_mv {P : Program} {ops : Array Oper} {rest : List Oper} {o : Oper} {a : Act} {w : World} {Q : Exit → Act → World → Prop} (hg : o.guard = none) (x : Operand) (ho : o.op = .move x)
    (h : wpList P ops Q rest (a.put o.dst (a.eval x)) w) : wpList P ops Q (o :: rest) a w :=
  wpList_plain hg fun K hK => by
    unfold Oper.wp execOp
    simp only [ho]
    exact hK _ _ h
theorem results_cell_tmp2 {P : Program} {fn : Func} {p q q2 : Tmp} {ty : TypeId} (h : fn.results = #[.cell p ty, .tmp q, .tmp q2]) (tmps : Array Value) (w : World) (g : Nat) (t : TypeId) (cs : Array Value) (fr : Nat × Nat) (d : TypeDesc) (v v2 : Value)
    (hp : tmps.getD p undef = .pointer (some ⟨g, 0, none⟩)) (hq : tmps.getD q undef = v) (hq2 : tmps.getD q2 undef = v2) (hg : w.heap[g]? = some (.cells cs t fr))
    (hu : P.underlying ty = some d) (hd : (match d with | .struct _ | .array _ _ => true | _ => false) = true) (hi : (P.info? ty).map (·.size) = some cs.size) :
    (results fn tmps).run P w = .ok (.tuple #[.agg cs, v, v2]) w := by
  have hp' : tmps[p]?.getD undef = .pointer (some ⟨g, 0, none⟩) := by simpa using hp
  have hq' : tmps[q]?.getD undef = v := by simpa using hq
  have hq2' : tmps[q2]?.getD undef = v2 := by simpa using hq2
  simp [results, h, hp', hq', hq2', asAddr, run_loadVar_row w g t ty cs fr d hg hu hd hi]
theorem alloc2p (w : World) (a b : Obj) : ((w.alloc a).alloc b).heap[w.heap.size]? = some a ∧ ((w.alloc a).alloc b).heap[w.heap.size + 1]? = some b ∧ ((w.alloc a).alloc b).heap.size = w.heap.size + 1 + 1 ∧ Below w.heap.size w ((w.alloc a).alloc b) := by
  have e1 : (w.alloc a).heap.size = w.heap.size + 1 := by simp
  have h0 := heap_alloc_new w a
  have h1 := heap_alloc_new (w.alloc a) b
  rw [e1] at h1
  exact ⟨by rw [Below.heap_alloc _ _ _ (by omega)]; exact h0, h1, by simp, ((Below.refl w.heap.size w).alloc (Nat.le_refl _) a).alloc (by omega) b⟩
theorem results_cellH {P : Program} {fn : Func} {p : Tmp} {ty : TypeId} (h : fn.results = #[.cell p ty]) (tmps : Array Value) (w : World) (g : Nat) (t : TypeId) (cs : Array Value) (fr : Nat × Nat) (d : TypeDesc)
    (hp : tmps.getD p undef = .pointer (some ⟨g, 0, none⟩)) (hg : w.heap[g]? = some (.cells cs t fr))
    (hu : P.underlying ty = some d) (hd : (match d with | .struct _ | .array _ _ => true | _ => false) = true) (hi : (P.info? ty).map (·.size) = some cs.size) :
    (results fn tmps).run P w = .ok (.agg cs) w := by
  have hp' : tmps[p]?.getD undef = .pointer (some ⟨g, 0, none⟩) := by simpa using hp
  simp [results, h, hp', asAddr, run_loadVar_row w g t ty cs fr d hg hu hd hi]
theorem results_mid_tmp2 {P : Program} {fn : Func} {p q q2 : Tmp} {ty : TypeId} (h : fn.results = #[.cell p ty, .tmp q, .tmp q2]) (tmps : Array Value) (w : World) (g : Nat) (cs : List Value) (d : TypeDesc) (v v2 : Value)
    (hp : tmps.getD p undef = .pointer (some ⟨g, 0, none⟩)) (hq : tmps.getD q undef = v) (hq2 : tmps.getD q2 undef = v2) (hc : w.rangeAt g 0 cs)
    (hu : P.underlying ty = some d) (hd : d.isRow = true) (hi : (P.info? ty).map (·.size) = some cs.length) :
    (results fn tmps).run P w = .ok (.tuple #[.agg cs.toArray, v, v2]) w := by
  have hp' : tmps[p]?.getD undef = .pointer (some ⟨g, 0, none⟩) := by simpa using hp
  have hq' : tmps[q]?.getD undef = v := by simpa using hq
  have hq2' : tmps[q2]?.getD undef = v2 := by simpa using hq2
  simp [results, h, hp', hq', hq2', asAddr, run_loadVar_mid w g 0 ty cs d hc hu hd hi]
theorem there_of_heap {w : World} {g : Nat} {cs : Array Value} {t : TypeId} {n : Nat} (h : w.heap[g]? = some (.cells cs t (0, 0))) (hn : n ≤ cs.size) : w.there g 0 n := fun j hj =>
  ⟨by rw [cell_of_row _ g _ _ t (0, 0) h, Nat.zero_add, Array.getElem?_eq_getElem (by omega)]; rfl, frozen_of_row _ _ _ _ _ h⟩
theorem there_below {w w' : World} {g n : Nat} (hb : Below w.heap.size w w') (h : w.there g 0 n) (hg : g < w.heap.size) : w'.there g 0 n := fun j hj =>
  ⟨by rw [hb.cell (p := ⟨g, 0 + j, none⟩) hg]; exact (h j hj).1, (hb.frozen (p := ⟨g, 0 + j, none⟩) hg).trans (h j hj).2⟩
theorem wpList_when {P : Program} {ops : Array Oper} {rest : List Oper} {o : Oper} {a : Act} {w : World} {Q : Exit → Act → World → Prop} (hw : Region.wanted o (yielded ops a.tmps) = true)
    (h : ∀ K : Act → World → Prop, (∀ a w, wpList P ops Q rest a w → K a w) → o.wp P a w K Q) : wpList P ops Q (o :: rest) a w :=
  wpList_step fun K hK => by rw [if_pos hw]; exact h K hK
theorem wpList_load_midG {P : Program} {ops : Array Oper} {rest : List Oper} {op : Oper} {a : Act} {w : World} {Q : Exit → Act → World → Prop} (hw : Region.wanted op (yielded ops a.tmps) = true) (ty : TypeId) (x : Operand) (ho : op.op = .load ty x)
    (b o : Nat) (hx : a.eval x = .pointer (some ⟨b, o, none⟩)) (cs : List Value) (d : TypeDesc) (hc : w.rangeAt b o cs)
    (hu : P.underlying ty = some d) (hd : d.isRow = true) (hi : (P.info? ty).map (·.size) = some cs.length)
    (h : wpList P ops Q rest (a.put op.dst (.agg cs.toArray)) w) : wpList P ops Q (op :: rest) a w :=
  wpList_when hw fun _ hK => wp_load_mid ty x ho b o hx cs d hc hu hd hi (hK _ _ h)
theorem wpList_build2G {P : Program} {ops : Array Oper} {rest : List Oper} {o : Oper} {a : Act} {w : World} {Q : Exit → Act → World → Prop} (hw : Region.wanted o (yielded ops a.tmps) = true) (t : TypeId) (x y : Operand) (ho : o.op = .build t #[(0, x), (1, y)])
    {v0 v1 : Value} {cells : Array Value} (hb : P.built t [(0, v0), (1, v1)] = some cells) (hx : a.eval x = v0) (hy : a.eval y = v1)
    (h : wpList P ops Q rest (a.put o.dst (.agg cells)) w) : wpList P ops Q (o :: rest) a w := by
  have hv : ((#[(0, x), (1, y)] : Array (Nat × Operand)).map fun (i, x) => (i, a.eval x)).toList = [(0, v0), (1, v1)] := by simp [hx, hy]
  exact wpList_when hw fun _ hK => wp_build t _ ho (by rw [hv, hb]; rfl) (hK _ _ (by rw [hv, hb]; exact h))
theorem row_range {w : World} {g : Nat} {t : TypeId} {L : List Value} (h : w.heap[g]? = some (.cells L.toArray t (0, 0))) : w.rangeAt g 0 L := fun j v hj => by
  rw [Nat.zero_add, cell_of_row _ g _ _ t (0, 0) h, List.getElem?_toArray]; exact hj
theorem heap_keep {w w' : World} {g : Nat} {x : Obj} (h : w.heap[g]? = some x) (b : Below w.heap.size w w') : w'.heap[g]? = some x := (b.block g (Array.getElem?_eq_some_iff.1 h).1).trans h
theorem heap_far {w w' : World} {g H : Nat} {x : Obj} (h : w.heap[g]? = some x) (hf : Far H w w') (hne : g ≠ H) : w'.heap[g]? = some x := by rw [hf.block g (Array.getElem?_eq_some_iff.1 h).1 (by simpa using hne)]; exact h
theorem tag_there {w : World} {g : Nat} {cur : Array Value} {t : TypeId} {o n : Nat} (h : w.heap[g]? = some (.cells cur t (0, 0))) (hn : o + n ≤ cur.size) : w.there g o n := fun j hj =>
  ⟨by rw [cell_of_row _ g _ _ t (0, 0) h, Array.getElem?_eq_getElem (by omega)]; rfl, frozen_of_row _ _ _ _ _ h⟩
/-- cells written over an array's -/
def setMs (cur : Array Value) : Nat → List Value → Array Value
  | _, [] => cur
  | o, v :: r => setMs (cur.setIfInBounds o v) (o + 1) r
theorem setMs_size : ∀ (vs : List Value) (o : Nat) (cur : Array Value), (setMs cur o vs).size = cur.size
  | [], _, _ => rfl
  | v :: r, o, cur => by rw [setMs, setMs_size r]; simp
theorem setMs_get : ∀ (vs : List Value) (o : Nat) (cur : Array Value) (j : Nat), o + vs.length ≤ cur.size → (setMs cur o vs)[j]? = if o ≤ j ∧ j < o + vs.length then vs[j - o]? else cur[j]?
  | [], o, cur, j, _ => by simp [setMs]; omega
  | v :: r, o, cur, j, h => by
    rw [List.length_cons] at h
    rw [setMs, setMs_get r (o + 1) _ j (by simp; omega), List.length_cons]
    by_cases h1 : o + 1 ≤ j ∧ j < o + 1 + r.length
    · rw [if_pos h1, if_pos (by omega), show j - o = (j - (o + 1)) + 1 by omega, List.getElem?_cons_succ]
    · rw [if_neg h1]
      by_cases h2 : j = o
      · subst h2
        rw [if_pos (by omega), Nat.sub_self, List.getElem?_cons_zero, Array.getElem?_setIfInBounds_self_of_lt (by omega)]
      · rw [if_neg (by omega), Array.getElem?_setIfInBounds_ne (by omega)]
theorem heap_setCells {g : Nat} {t : TypeId} : ∀ (vs : List Value) (o : Nat) (w : World) (cur : Array Value), w.heap[g]? = some (.cells cur t (0, 0)) → (w.setCells g o vs).heap[g]? = some (.cells (setMs cur o vs) t (0, 0))
  | [], _, _, _, h => h
  | v :: r, o, w, cur, h => heap_setCells r (o + 1) _ _ (by simp [World.setCell, Array.getElem?_modify, h])
theorem far_setCells {g : Nat} : ∀ (vs : List Value) (o : Nat) (w : World), Far g w (w.setCells g o vs)
  | [], _, _ => Far.refl _ _
  | v :: r, o, _ => (Far.set v).trans (far_setCells r (o + 1) _)
theorem far_cell' {w w' : World} {H : Nat} {a : Addr} {v : Value} (h : w.cell? a = some v) (hf : Far H w w') (hne : a.block ≠ H) : w'.cell? a = some v := by
  rw [World.cell?_of_block (hf.block _ (World.block_lt_of_cell? w _ h) (by simpa using hne))]; exact h
theorem range_keep {w w' : World} {g o : Nat} {L : List Value} (b : Below w.heap.size w w') (h : w.rangeAt g o L) : w'.rangeAt g o L := fun j v hj => by
  have := h j v hj
  rw [b.cell (World.block_lt_of_cell? w _ this)]; exact this
theorem cell_keep {w w' : World} {a : Addr} {v : Value} (b : Below w.heap.size w w') (h : w.cell? a = some v) : w'.cell? a = some v := by
  rw [b.cell (World.block_lt_of_cell? w _ h)]; exact h
theorem laid (w : World) (z c : Array Value) (t : TypeId) : ((w.alloc (.cells z t)).setRow w.heap.size c).heap[w.heap.size]? = some (.cells c t (0, 0)) ∧ Below w.heap.size w ((w.alloc (.cells z t)).setRow w.heap.size c) :=
  ⟨setRow_heap _ _ _ _ _ _ (heap_alloc_new w (.cells z t)), below_setRow ((Below.refl w.heap.size w).alloc (Nat.le_refl _) _) (Nat.le_refl _) c⟩
theorem gen_range {w : World} {b : Nat} {L : List Value} (h : w.rangeAt b 0 L) (o n : Nat) : w.rangeAt b o ((L.drop o).take n) := fun j v hj => by
  rw [List.getElem?_take] at hj
  split at hj
  · rw [List.getElem?_drop] at hj
    have := h _ v hj
    rwa [Nat.zero_add] at this
  · cases hj
theorem gen_cell {w : World} {b j : Nat} {L : List Value} {v : Value} (h : w.rangeAt b 0 L) (hj : L[j]? = some v) : w.cell? ⟨b, j, none⟩ = some v := by
  have := h j v hj
  rwa [Nat.zero_add] at this
theorem newZ {K : Act → World → Prop} {A : Act} {W : World} {T : TypeId} {Z : Array Value} (h : ∀ W', Hid (W'.heap[W.heap.size]? = some (.cells Z T (0, 0))) → Hid (Below W.heap.size W W') → K A W') : K A (W.alloc (.cells Z T)) :=
  h _ (heap_alloc_new W _) ((Below.refl _ _).alloc (Nat.le_refl _) _)
theorem newZd {K : Act → World → Prop} {A : Act} {W : World} {T : TypeId} {Z : Array Value} (h : ∀ W', Hid (W'.heap[W.heap.size]? = some (.cells Z T (0, 0))) → Hid (Below W.heap.size W W') → K A W') : K A (W.alloc (.cells Z T)).drew :=
  h _ (heap_alloc_new W _) ((Below.refl _ _).alloc (Nat.le_refl _) _).drew
theorem list4 {α : Type} {l : List α} (h : l.length = 4) : ∃ a b c d, l = [a, b, c, d] := by
  match l, h with
  | [a, b, c, d], _ => exact ⟨a, b, c, d, rfl⟩
theorem sl_range {w : World} {b off n c : Nat} {xs : List Nat} (h : Sl .u8 w (some ⟨b, off, none⟩) n c xs) (hn : 0 < n) : w.rangeAt b off (nums .u8 xs) := by
  obtain ⟨_, _, _, _, b', off', ha, hc⟩ := h
  have := ha hn
  simp only [Option.some.injEq, Addr.mk.injEq, and_true] at this
  obtain ⟨rfl, rfl⟩ := this
  exact hc
theorem far_row (w : World) (R : Nat) (cs : Array Value) : Far R w (w.setRow R cs) := ⟨rfl, rfl, rfl, by simp [World.setRow], fun k _ hk => setRow_other w R k _ (by simpa using hk)⟩
theorem wpList_build5 {P : Program} {ops : Array Oper} {rest : List Oper} {o : Oper} {a : Act} {w : World} {Q : Exit → Act → World → Prop} (hg : o.guard = none) (t : TypeId) (x0 x1 x2 x3 x4 : Operand) (ho : o.op = .build t #[(0, x0), (1, x1), (2, x2), (3, x3), (4, x4)])
    {v0 v1 v2 v3 v4 : Value} {cells : Array Value} (hb : P.built t [(0, v0), (1, v1), (2, v2), (3, v3), (4, v4)] = some cells) (h0 : a.eval x0 = v0) (h1 : a.eval x1 = v1) (h2 : a.eval x2 = v2) (h3 : a.eval x3 = v3) (h4 : a.eval x4 = v4)
    (h : wpList P ops Q rest (a.put o.dst (.agg cells)) w) : wpList P ops Q (o :: rest) a w := by
  have hv : ((#[(0, x0), (1, x1), (2, x2), (3, x3), (4, x4)] : Array (Nat × Operand)).map fun (i, x) => (i, a.eval x)).toList = [(0, v0), (1, v1), (2, v2), (3, v3), (4, v4)] := by simp [h0, h1, h2, h3, h4]
  exact wpList_build hg t _ ho (by rw [hv, hb]; rfl) (by rw [hv, hb]; exact h)
theorem run_buildN {P : Program} {w : World} {o : Oper} {ev : Operand → Value} {t : TypeId} {parts : Array (Nat × Operand)} {cells : Array Value} (ho : o.op = .build t parts) (hb : P.built t (parts.map fun (i, x) => (i, ev x)).toList = some cells) :
    (execOp ev o).run P w = .ok (.value (.agg cells)) w := by
  unfold execOp
  simp only [ho, Sem.run_bind, run_build w t _ cells hb, Result.andThen_ok]
  rfl
theorem run_build4 {P : Program} {w : World} {o : Oper} {ev : Operand → Value} {t : TypeId} {x0 x1 x2 x3 : Operand} {v0 v1 v2 v3 : Value} {cells : Array Value} (ho : o.op = .build t #[(0, x0), (1, x1), (2, x2), (3, x3)])
    (h0 : ev x0 = v0) (h1 : ev x1 = v1) (h2 : ev x2 = v2) (h3 : ev x3 = v3) (hb : P.built t [(0, v0), (1, v1), (2, v2), (3, v3)] = some cells) : (execOp ev o).run P w = .ok (.value (.agg cells)) w :=
  run_buildN ho (by simpa [h0, h1, h2, h3] using hb)
theorem run_build5 {P : Program} {w : World} {o : Oper} {ev : Operand → Value} {t : TypeId} {x0 x1 x2 x3 x4 : Operand} {v0 v1 v2 v3 v4 : Value} {cells : Array Value} (ho : o.op = .build t #[(0, x0), (1, x1), (2, x2), (3, x3), (4, x4)])
    (h0 : ev x0 = v0) (h1 : ev x1 = v1) (h2 : ev x2 = v2) (h3 : ev x3 = v3) (h4 : ev x4 = v4) (hb : P.built t [(0, v0), (1, v1), (2, v2), (3, v3), (4, v4)] = some cells) : (execOp ev o).run P w = .ok (.value (.agg cells)) w :=
  run_buildN ho (by simpa [h0, h1, h2, h3, h4] using hb)
theorem heap_set {w : World} {g i : Nat} {L : List Value} {t : TypeId} (v : Value) (h : w.heap[g]? = some (.cells L.toArray t (0, 0))) : (w.setCell ⟨g, i, none⟩ v).heap[g]? = some (.cells (L.set i v).toArray t (0, 0)) := by
  simp [World.setCell, Array.getElem?_modify, h]
theorem range_far {w w' : World} {H g o : Nat} {L : List Value} (hf : Far H w w') (h : w.rangeAt g o L) (hne : g ≠ H) : w'.rangeAt g o L := fun j v hj => by
  have := h j v hj
  rw [World.cell?_of_block (hf.block _ (World.block_lt_of_cell? w _ this) (by simpa using hne))]; exact this
theorem setW {K : Act → World → Prop} {A : Act} {W : World} {g i : Nat} {v : Value} {L : List Value} {t : TypeId} (hg : W.heap[g]? = some (.cells L.toArray t (0, 0))) (h : ∀ W', Hid (W'.heap[g]? = some (.cells (L.set i v).toArray t (0, 0))) → Hid (Far g W W') → K A W') : K A (W.setCell ⟨g, i, none⟩ v) :=
  h _ (heap_set v hg) (Far.set v)
theorem setWd {K : Act → World → Prop} {A : Act} {W : World} {g i : Nat} {v : Value} {L : List Value} {t : TypeId} (hg : W.heap[g]? = some (.cells L.toArray t (0, 0))) (h : ∀ W', Hid (W'.heap[g]? = some (.cells (L.set i v).toArray t (0, 0))) → Hid (Far g W W') → K A W') : K A (W.setCell ⟨g, i, none⟩ v).drew :=
  h _ (heap_set v hg) ((Far.set v).trans (Far.of ((Below.refl _ _).drew)))
theorem setW2 {K : Act → World → Prop} {A : Act} {W : World} {g i j : Nat} {u v : Value} {L : List Value} {t : TypeId} (hg : W.heap[g]? = some (.cells L.toArray t (0, 0))) (h : ∀ W', Hid (W'.heap[g]? = some (.cells ((L.set i u).set j v).toArray t (0, 0))) → Hid (Far g W W') → K A W') : K A ((W.setCell ⟨g, i, none⟩ u).setCell ⟨g, j, none⟩ v) :=
  h _ (heap_set v (heap_set u hg)) ((Far.set u).trans (Far.set v))
/-- '[]T{x}', x a struct or an array -/
theorem wpList_lit1 {P : Program} {ops : Array Oper} {rest : List Oper} {o : Oper} {a : Act} {w : World} {Q : Exit → Act → World → Prop} (hg : o.guard = none) (t e : TypeId) (x : Operand) (ho : o.op = .buildSlice t 1 #[(0, x)])
    {cells : Array Value} (hx : a.eval x = .agg cells) (hu : P.underlying t = some (.slice e)) {size : Nat} (hi : (P.info? e).map (·.size) = some size) (hz : ((P.info? e).bind (·.zero)).isSome = true) (hs : cells.size = size) (hp : 0 < size) (hle : size ≤ 16777216)
    (h : wpList P ops Q rest (a.put o.dst (.slice (some ⟨w.heap.size, 0, none⟩) 1 1)) (w.alloc (.cells cells e))) : wpList P ops Q (o :: rest) a w := by
  cases hie : P.info? e with
  | none => simp [hie] at hi
  | some ie =>
    simp only [hie, Option.map_some, Option.some.injEq, Option.bind_some] at hi hz
    obtain ⟨z, hzz⟩ := Option.isSome_iff_exists.1 hz
    refine wpList_buildSlice hg t e 1 _ ho cells ie z hu hie hzz (by rw [hi]; omega) (by rw [hi]; omega) ?_ h
    have := Great.fill_whole (s := size) hp [.agg cells] ((Array.range (1 * size)).map (z.cells[· % z.cells.size]!)) (by intro v hv; simp at hv; subst hv; exact hs) (by simp)
    rw [hi]
    simpa [hx, Value.cells] using this
theorem laid2 (w : World) (z1 c1 z2 c2 : Array Value) (t1 t2 : TypeId) : ((((w.alloc (.cells z1 t1)).alloc (.cells z2 t2)).setRow w.heap.size c1).setRow (w.heap.size + 1) c2).heap[w.heap.size]? = some (.cells c1 t1 (0, 0)) ∧
    ((((w.alloc (.cells z1 t1)).alloc (.cells z2 t2)).setRow w.heap.size c1).setRow (w.heap.size + 1) c2).heap[w.heap.size + 1]? = some (.cells c2 t2 (0, 0)) ∧
    Below w.heap.size w ((((w.alloc (.cells z1 t1)).alloc (.cells z2 t2)).setRow w.heap.size c1).setRow (w.heap.size + 1) c2) := by
  have A := alloc2p w (.cells z1 t1) (.cells z2 t2)
  have h1 : (((w.alloc (.cells z1 t1)).alloc (.cells z2 t2)).setRow w.heap.size c1).heap[w.heap.size]? = some (.cells c1 t1 (0, 0)) := setRow_heap _ _ _ _ _ _ A.1
  refine ⟨by rw [setRow_other _ _ _ _ (by omega)]; exact h1, setRow_heap _ _ _ _ _ _ (by rw [setRow_other _ _ _ _ (by omega)]; exact A.2.1), below_setRow (below_setRow A.2.2.2 (Nat.le_refl _) c1) (by omega) c2⟩
theorem Far.newer {H r : Nat} {u v w : World} (h : Far H u v) (k : Far r v w) (hr : u.heap.size ≤ r) : Far H u w :=
  ⟨k.os.trans h.os, k.tape.trans h.tape, k.output.trans h.output, Nat.le_trans h.size k.size, fun i hi hn => (k.block i (Nat.lt_of_lt_of_le hi h.size) (by simp; omega)).trans (h.block i hi hn)⟩
theorem alloc3p (w : World) (a b c : Obj) : (((w.alloc a).alloc b).alloc c).heap[w.heap.size]? = some a ∧ (((w.alloc a).alloc b).alloc c).heap[w.heap.size + 1]? = some b ∧ (((w.alloc a).alloc b).alloc c).heap[w.heap.size + 1 + 1]? = some c ∧
    Below w.heap.size w (((w.alloc a).alloc b).alloc c) := by
  have A := alloc2p w a b
  have hz : ((w.alloc a).alloc b).heap.size = w.heap.size + 1 + 1 := A.2.2.1
  have h2 := heap_alloc_new ((w.alloc a).alloc b) c
  rw [hz] at h2
  refine ⟨by rw [Below.heap_alloc _ _ _ (by omega)]; exact A.1, by rw [Below.heap_alloc _ _ _ (by omega)]; exact A.2.1, h2, A.2.2.2.alloc (by omega) c⟩
/-- all but two blocks is as it was (new blocks may be there) -/
structure Far2 (H G : Nat) (w w' : World) : Prop where
  os : w'.os = w.os
  tape : w'.tape = w.tape
  output : w'.output = w.output
  size : w.heap.size ≤ w'.heap.size
  block : ∀ i, i < w.heap.size → i ≠ H → i ≠ G → w'.heap[i]? = w.heap[i]?
theorem Far2.refl (H G : Nat) (w : World) : Far2 H G w w := ⟨rfl, rfl, rfl, Nat.le_refl _, fun _ _ _ _ => rfl⟩
theorem Far2.trans {H G : Nat} {u v w : World} (h : Far2 H G u v) (k : Far2 H G v w) : Far2 H G u w :=
  ⟨k.os.trans h.os, k.tape.trans h.tape, k.output.trans h.output, Nat.le_trans h.size k.size, fun i hi h1 h2 => (k.block i (Nat.lt_of_lt_of_le hi h.size) h1 h2).trans (h.block i hi h1 h2)⟩
theorem Far.l2 {H : Nat} (G : Nat) {w w' : World} (h : Far H w w') : Far2 H G w w' := ⟨h.os, h.tape, h.output, h.size, fun i hi h1 _ => h.block i hi (by simpa using h1)⟩
theorem Far.r2 {G : Nat} (H : Nat) {w w' : World} (h : Far G w w') : Far2 H G w w' := ⟨h.os, h.tape, h.output, h.size, fun i hi _ h2 => h.block i hi (by simpa using h2)⟩
theorem Far2.below {H G B : Nat} {w w' : World} (h : Far2 H G w w') (h1 : B ≤ H) (h2 : B ≤ G) (h3 : B ≤ w.heap.size) : Below B w w' := ⟨h.os, h.tape, h.output, h.size, fun i hi => h.block i (by omega) (by omega) (by omega)⟩
theorem Far2.heap {H G g : Nat} {w w' : World} {x : Obj} (h : Far2 H G w w') (hx : w.heap[g]? = some x) (h1 : g ≠ H) (h2 : g ≠ G) : w'.heap[g]? = some x := by rw [h.block g (Array.getElem?_eq_some_iff.1 hx).1 h1 h2]; exact hx
theorem Far2.newer {H G r : Nat} {u v w : World} (h : Far2 H G u v) (k : Far r v w) (hr : u.heap.size ≤ r) : Far2 H G u w :=
  ⟨k.os.trans h.os, k.tape.trans h.tape, k.output.trans h.output, Nat.le_trans h.size k.size, fun i hi h1 h2 => (k.block i (Nat.lt_of_lt_of_le hi h.size) (by simp; omega)).trans (h.block i hi h1 h2)⟩
end Go.Proofs.YtgaidleepjkldaaDoor

/- Arrays of bytes as values; whether two are the same. -/
namespace Go.Proofs.YtgaidleepjkldaaDoor
open Go.RowKit
open Extern.Stop (cell)

/-- an array of bytes -/
def hv (xs : List Nat) : Value := .agg (nums .u8 xs).toArray
theorem nums_cell {xs : List Nat} (h : ∀ d ∈ xs, d < 256) : nums .u8 xs = (xs.map (fun d => UInt8.ofNat d)).map cell := by
  rw [nums, List.map_map]
  apply List.map_congr_left
  intro d hd
  have := h d hd
  simp only [Function.comp_apply, cell]
  congr 1
  simp
  omega
theorem szU8' (w : World) : (sizeOf 5).run Tryd.prog w = .ok 1 w := by
  have h := infoU8
  cases hi : Tryd.prog.info? 5 with
  | none => rw [hi] at h; cases h
  | some i =>
    rw [hi] at h
    simp only [Option.map_some, Option.some.injEq, Prod.mk.injEq] at h
    simp [sizeOf, typeInfo, hi, h.2.1]
theorem u8s_eq {xs ys : List Nat} (hx : ∀ d ∈ xs, d < 256) (hy : ∀ d ∈ ys, d < 256) : ((xs.map (fun d => UInt8.ofNat d)) == (ys.map (fun d => UInt8.ofNat d))) = decide (xs = ys) := by
  rw [Bool.eq_iff_iff, beq_iff_eq, decide_eq_true_eq]
  exact ⟨map_u8_inj hx hy, fun h => by rw [h]⟩
theorem run_eqIn_hv {t : TypeId} {n : Nat} (ht : Tryd.prog.underlying t = some (.array n 5)) (w : World) (d : Nat) {xs ys : List Nat} (lx : xs.length = n) (ly : ys.length = n) (hx : ∀ d ∈ xs, d < 256) (hy : ∀ d ∈ ys, d < 256) :
    (Op.equalIn (d + 2) t (hv xs) (hv ys)).run Tryd.prog w = .ok (decide (xs = ys)) w := by
  unfold hv
  rw [nums_cell hx, nums_cell hy, run_equalIn_bytes w d t 5 n ht Tryd.underlying5 szU8' _ _ (by simpa using lx) (by simpa using ly), u8s_eq hx hy]
theorem run_eql_hv {t : TypeId} {n : Nat} (ht : Tryd.prog.underlying t = some (.array n 5)) (w : World) {xs ys : List Nat} (lx : xs.length = n) (ly : ys.length = n) (hx : ∀ d ∈ xs, d < 256) (hy : ∀ d ∈ ys, d < 256) :
    (binOp .eql t (hv xs) (hv ys)).run Tryd.prog w = .ok (.bool (decide (xs = ys))) w := by
  unfold hv
  rw [run_eql_struct]
  have := run_eqIn_hv ht w 9998 lx ly hx hy
  unfold hv at this
  rw [this]
  rfl
theorem run_neq_hv {t : TypeId} {n : Nat} (ht : Tryd.prog.underlying t = some (.array n 5)) (w : World) {xs ys : List Nat} (lx : xs.length = n) (ly : ys.length = n) (hx : ∀ d ∈ xs, d < 256) (hy : ∀ d ∈ ys, d < 256) :
    (binOp .neq t (hv xs) (hv ys)).run Tryd.prog w = .ok (.bool (!decide (xs = ys))) w := by
  unfold hv
  rw [run_neq_struct]
  have := run_eqIn_hv ht w 9998 lx ly hx hy
  unfold hv at this
  rw [this]
  rfl
theorem guardH : Tryd.prog.eqGuardType Tryd.prog.depth 23 = false := by kernel_rfl
theorem infoH : (Tryd.prog.info? 23).map (·.size) = some 32 := by kernel_rfl
/-- '==' on digests: the two rules for the walk -/
theorem guard_hv (xs ys : List Nat) : ∀ (op : BinOp) (x y : Operand) (w : World), (eqGuard op 23 x y (hv xs) (hv ys)).run Tryd.prog w = .ok () w := by
  intro op x y w
  exact run_eqGuard_agg w op 23 x y _ _ guardH
theorem eql_hv {xs ys : List Nat} (lx : xs.length = 32) (ly : ys.length = 32) (hx : ∀ d ∈ xs, d < 256) (hy : ∀ d ∈ ys, d < 256) : ∀ w : World, (binOp .eql 23 (hv xs) (hv ys)).run Tryd.prog w = .ok (.bool (decide (xs = ys))) w :=
  fun w => run_eql_hv Tryd.underlying23 w lx ly hx hy
theorem neq_hv {xs ys : List Nat} (lx : xs.length = 32) (ly : ys.length = 32) (hx : ∀ d ∈ xs, d < 256) (hy : ∀ d ∈ ys, d < 256) : ∀ w : World, (binOp .neq 23 (hv xs) (hv ys)).run Tryd.prog w = .ok (.bool (!decide (xs = ys))) w :=
  fun w => run_neq_hv Tryd.underlying23 w lx ly hx hy
/-- a digest stored into a variable of its own -/
theorem wpList_storeH {w : World} {ops : Array Oper} {rest : List Oper} {o : Oper} {a : Act} {Q : Exit → Act → World → Prop} (hgd : o.guard = none) (x y : Operand) (ho : o.op = .store 23 x y)
    (g : Nat) (hx : a.eval x = .pointer (some ⟨g, 0, none⟩)) {zs : List Nat} (hy : a.eval y = hv zs) (hl : zs.length = 32) {old : Array Value} {t : TypeId} (hg : w.heap[g]? = some (.cells old t (0, 0))) (hold : old.size = 32)
    (h : ∀ w', w'.heap[g]? = some (.cells (nums .u8 zs).toArray t (0, 0)) → Far g w w' → wpList Tryd.prog ops Q rest (a.put o.dst undef) w') : wpList Tryd.prog ops Q (o :: rest) a w := by
  have hsz : (nums .u8 zs).toArray.size = 32 := by rw [List.size_toArray, nums_length, hl]
  refine wpList_store_row hgd _ x y ho g (nums .u8 zs).toArray hx hy t old hg (by rw [hsz]; exact infoH) (by rw [hsz]; exact hold) (by simp [nums, Value.oneCell']) ?_
  exact h _ (setRow_heap w g _ _ t _ hg) ⟨rfl, rfl, rfl, by simp [World.setRow], fun k _ hk => setRow_other w g k _ (by simpa using hk)⟩
end Go.Proofs.YtgaidleepjkldaaDoor

/- What a slice of records (a number, bytes) reads as. -/
namespace Go.Proofs.YtgaidleepjkldaaDoor
open Go.RowKit

/-- a record and where its bytes lie -/
structure LR where
  t : Nat
  a : Option Addr
  c : Nat
  v : List Nat
def LR.cells (l : LR) : List Value := [.int .u64 (l.t : Int), .slice l.a l.v.length l.c]
def LR.good (w : World) (l : LR) : Prop := l.t < 18446744073709551616 ∧ Sl .u8 w l.a l.v.length l.c l.v ∧ (∀ d ∈ l.v, d < 256) ∧ l.v.length ≤ 140737488351232
def LR.pr (l : LR) : Nat × List Nat := (l.t, l.v)
def Recs (w : World) (a : Option Addr) (n cap : Nat) (ls : List LR) : Prop := Rd w 2 a n cap (ls.flatMap LR.cells) ∧ ls.length = n ∧ ∀ l ∈ ls, l.good w
theorem LR.good.below {w w' : World} {l : LR} (h : l.good w) (hb : Below w.heap.size w w') : l.good w' := ⟨h.1, h.2.1.below hb, h.2.2⟩
theorem Recs.below {w w' : World} {a : Option Addr} {n cap : Nat} {ls : List LR} (h : Recs w a n cap ls) (hb : Below w.heap.size w w') : Recs w' a n cap ls :=
  ⟨h.1.below hb, h.2.1, fun l hl => (h.2.2 l hl).below hb⟩
theorem flat_get {ls : List LR} {j : Nat} {l : LR} (h : ls[j]? = some l) : (ls.flatMap LR.cells)[j * 2]? = some (.int .u64 (l.t : Int)) ∧ (ls.flatMap LR.cells)[j * 2 + 1]? = some (.slice l.a l.v.length l.c) := by
  induction ls generalizing j with
  | nil => simp at h
  | cons x r ih =>
    cases j with
    | zero =>
      simp only [List.getElem?_cons_zero, Option.some.injEq] at h
      subst h
      exact ⟨rfl, rfl⟩
    | succ j =>
      rw [List.getElem?_cons_succ] at h
      have := ih h
      rw [show (j + 1) * 2 = j * 2 + 2 by omega]
      exact this
theorem Recs.cells {w : World} {a : Option Addr} {n cap j : Nat} {ls : List LR} {l : LR} (h : Recs w a n cap ls) (hj : ls[j]? = some l) :
    ∃ b off, a = some ⟨b, off, none⟩ ∧ w.cell? ⟨b, off + j * 2, none⟩ = some (.int .u64 (l.t : Int)) ∧ w.cell? ⟨b, off + j * 2 + 1, none⟩ = some (.slice l.a l.v.length l.c) ∧ l.good w := by
  obtain ⟨⟨_, _, _, _, b, off, ha, hc⟩, hl, hg⟩ := h
  have hjl : j < ls.length := (List.getElem?_eq_some_iff.1 hj).1
  obtain ⟨f1, f2⟩ := flat_get hj
  exact ⟨b, off, ha (by omega), hc _ _ f1, by rw [Nat.add_assoc]; exact hc _ _ f2, hg l (List.mem_of_getElem? hj)⟩
theorem get_some {α : Type} {ls : List α} {j n : Nat} (hl : ls.length = n) (h : j < n) : ∃ l, ls[j]? = some l := ⟨ls[j]'(by omega), List.getElem?_eq_getElem (by omega)⟩
theorem take_succ_some {α : Type} {ls : List α} {j : Nat} {l : α} (h : ls[j]? = some l) : ls.take (j + 1) = ls.take j ++ [l] := by
  rw [List.take_add_one, h]; rfl
/-- a record in a variable of its own -/
def BxR (w : World) (b : Nat) (t : Nat) (s : Value) : Prop := w.cell? ⟨b, 0, none⟩ = some (.int .u64 (t : Int)) ∧ w.cell? ⟨b, 1, none⟩ = some s
theorem BxR.below {w w' : World} {b t : Nat} {s : Value} (h : BxR w b t s) (hb : Below w.heap.size w w') : BxR w' b t s := by
  have hlt : b < w.heap.size := World.block_lt_of_cell? w _ h.1
  exact ⟨(hb.cell (p := ⟨b, 0, none⟩) hlt).trans h.1, (hb.cell (p := ⟨b, 1, none⟩) hlt).trans h.2⟩
theorem BxR.new (w : World) (t : Nat) (s : Value) (e : TypeId) : BxR (w.alloc (.cells #[.int .u64 (t : Int), s] e)) w.heap.size t s :=
  ⟨by rw [cell_of_row _ w.heap.size _ _ e (0, 0) (heap_alloc_new w _)]; rfl, by rw [cell_of_row _ w.heap.size _ _ e (0, 0) (heap_alloc_new w _)]; rfl⟩

/-- 'append(s, x)', the block in which x lies under a name of its own -/
theorem wpList_pushAt {P : Program} {ops : Array Oper} {rest : List Oper} {o : Oper} {a : Act} {Q : Exit → Act → World → Prop} {w : World} (hgd : o.guard = none) (s x : Operand) (t : TypeId)
    (ho : o.op = .call { callee := .builtin .append, args := #[s, x], argTypes := #[t, t] })
    {e : TypeId} {size bytes : Nat} {z : Value} (ty : SliceTy P t e size bytes z) (B : Nat) {v : Value} {n : Nat} {xs : List Value} (hown : w.ownsRow B e size v n xs) (hs : a.eval s = v) (G : Nat) (hG : w.heap.size = G)
    {us : Array Value} {et : TypeId} (hx : a.eval x = .slice (some ⟨G, 0, none⟩) 1 1) (hl : us.size = size) (h1 : us.toList.all Value.oneCell' = true) (hn : n < 4294967296) (hby : bytes ≤ 16384) (hB : B ≤ w.heap.size)
    (h : ∀ v' w', w'.ownsRow B e size v' (n + 1) (xs ++ us.toList) → Below B w w' → w.heap.size < w'.heap.size → v' ≠ .slice none 0 0 → wpList P ops Q rest (a.put o.dst v') w') : wpList P ops Q (o :: rest) a (w.alloc (.cells us et)) := by
  subst hG
  exact wpList_push hgd s x t ho ty B hown hs hx hl h1 hn hby hB h
end Go.Proofs.YtgaidleepjkldaaDoor

/- Values that can be compared and be keys of maps, whatever their shape: numbers, bools, arrays, structs. -/
namespace Go.Proofs.YtgaidleepjkldaaDoor
open Go.RowKit

def KL (d : Nat) (t : TypeId) (cs : List Value) : Prop := ∃ ls, Tryd.prog.keyLits d t cs = some ls
theorem KL.int {d : Nat} {t : TypeId} {k : IntKind} {n : Int} (ht : Tryd.prog.underlying t = some (.int k)) (hw : (Lit.int k n).wf = true) : KL (d + 1) t [.int k n] := by
  refine ⟨[.int k n], ?_⟩
  simp [Program.keyLits, ht, hw]
theorem KL.bool {d : Nat} {t : TypeId} {b : Bool} (ht : Tryd.prog.underlying t = some .bool) : KL (d + 1) t [.bool b] := by
  refine ⟨[.bool b], ?_⟩
  simp [Program.keyLits, ht]
theorem mapM_some' {α β : Type} {f : α → Option β} : ∀ {l : List α}, (∀ x ∈ l, ∃ y, f x = some y) → ∃ ys, l.mapM f = some ys
  | [], _ => ⟨[], rfl⟩
  | x :: r, h => by
    obtain ⟨y, hy⟩ := h x (by simp)
    obtain ⟨ys, hys⟩ := mapM_some' (l := r) (fun z hz => h z (by simp [hz]))
    exact ⟨y :: ys, by simp [List.mapM_cons, hy, hys]⟩
theorem KL.array {d : Nat} {t e : TypeId} {n : Nat} {cs : List Value} (ht : Tryd.prog.underlying t = some (.array n e)) (hl : cs.length = Tryd.prog.cellsOf t)
    (h : ∀ i, i < n → KL d e ((cs.drop (i * Tryd.prog.cellsOf e)).take (Tryd.prog.cellsOf e))) : KL (d + 1) t cs := by
  obtain ⟨ys, hy⟩ := mapM_some' (f := fun i => Tryd.prog.keyLits d e ((cs.drop (i * Tryd.prog.cellsOf e)).take (Tryd.prog.cellsOf e))) (l := List.range n) (fun i hi => h i (by simpa using hi))
  refine ⟨ys.flatten, ?_⟩
  simp only [Program.keyLits, ht, hl, if_true, hy, Option.map_some]
theorem KL.struct {d : Nat} {t : TypeId} {fs : Array Field} {cs : List Value} (ht : Tryd.prog.underlying t = some (.struct fs)) (hl : cs.length = Tryd.prog.cellsOf t) (hn : fs.all (·.name != "_") = true)
    (h : ∀ f ∈ fs.toList, KL d f.type ((cs.drop f.offset).take (Tryd.prog.cellsOf f.type))) : KL (d + 1) t cs := by
  obtain ⟨ys, hy⟩ := mapM_some' (f := fun f : Field => Tryd.prog.keyLits d f.type ((cs.drop f.offset).take (Tryd.prog.cellsOf f.type))) (l := fs.toList) h
  refine ⟨ys.flatten, ?_⟩
  simp only [Program.keyLits, ht, hl, hn, and_self, if_true, hy, Option.map_some]
theorem cellsU8 : Tryd.prog.cellsOf 5 = 1 := by kernel_rfl
theorem u8_wf {n : Nat} (h : n < 256) : (Lit.int .u8 (n : Int)).wf = true := by
  simp [Lit.wf, IntKind.min, IntKind.max, IntKind.signed, IntKind.bits]; omega
theorem u64_wf {n : Nat} (h : n < 18446744073709551616) : (Lit.int .u64 (n : Int)).wf = true := by
  simp [Lit.wf, IntKind.min, IntKind.max, IntKind.signed, IntKind.bits]; omega
theorem i64_wf {z : Int} (h1 : -9223372036854775808 ≤ z) (h2 : z ≤ 9223372036854775807) : (Lit.int .i64 z).wf = true := by
  simp [Lit.wf, IntKind.min, IntKind.max, IntKind.signed, IntKind.bits]; omega
theorem KL.bytes {d n : Nat} {t : TypeId} (ht : Tryd.prog.underlying t = some (.array n 5)) (hc : Tryd.prog.cellsOf t = n) {xs : List Nat} (hl : xs.length = n) (hb : ∀ d ∈ xs, d < 256) : KL (d + 2) t (nums .u8 xs) := by
  refine KL.array ht (by rw [nums_length, hl, hc]) fun i hi => ?_
  have h1 : (List.drop (i * Tryd.prog.cellsOf 5) (nums .u8 xs)).take (Tryd.prog.cellsOf 5) = [.int .u8 ((xs.getD i 0 : Nat) : Int)] := by
    rw [cellsU8, Nat.mul_one]
    have hi' : i < (nums .u8 xs).length := by rw [nums_length]; omega
    rw [List.drop_eq_getElem_cons hi', List.take_succ_cons, List.take_zero]
    have := nums_get .u8 (show i < xs.length by omega)
    rw [List.getElem?_eq_getElem hi'] at this
    rw [Option.some.inj this]
  rw [h1]
  refine KL.int Tryd.underlying5 (u8_wf ?_)
  rw [List.getD_eq_getElem?_getD, List.getElem?_eq_getElem (by omega)]
  exact hb _ (List.getElem_mem _)
/-- a value that can be compared -/
def KV (t : TypeId) (v : Value) : Prop := ∃ l, keyOf Tryd.prog t v = some l
theorem tsz : ∃ m, Tryd.prog.types.size = m + 8 := ⟨Tryd.prog.types.size - 8, by have : 8 ≤ Tryd.prog.types.size := of_decide_eq_true (by kernel_rfl); omega⟩
/-- an array or a struct -/
noncomputable def isWide (t : TypeId) : Bool := match Tryd.prog.underlying t with | some (.array _ _) | some (.struct _) => true | _ => false
theorem KV.mk {t : TypeId} {cs : List Value} (hw : isWide t = true) (hk : Tryd.prog.keyType t = true) (hl : cs.length = Tryd.prog.cellsOf t) (h : ∀ d, KL (d + 8) t cs) : KV t (.agg cs.toArray) := by
  obtain ⟨m, hm⟩ := tsz
  obtain ⟨ls, hls⟩ := h (m + 1)
  have e1 : Tryd.prog.types.size + 1 = m + 1 + 8 := by omega
  have hf : (Value.agg cs.toArray).formed Tryd.prog t = true := by
    unfold isWide at hw
    unfold Value.formed
    split at hw <;> simp_all
  refine ⟨.string (keyBytes ls), ?_⟩
  unfold isWide at hw
  unfold keyOf
  split at hw
  · rename_i hu
    simp only [hu, hk, hf, Bool.and_self, if_true]
    rw [e1, show (Value.agg cs.toArray).cells.toList = cs from rfl, hls]
    rfl
  · rename_i hu
    simp only [hu, hk, hf, Bool.and_self, if_true]
    rw [e1, show (Value.agg cs.toArray).cells.toList = cs from rfl, hls]
    rfl
  · cases hw
theorem isWide_cases {t : TypeId} (h : isWide t = true) : (∃ n e, Tryd.prog.underlying t = some (.array n e)) ∨ ∃ fs, Tryd.prog.underlying t = some (.struct fs) := by
  unfold isWide at h
  split at h
  · rename_i n e hu; exact .inl ⟨n, e, hu⟩
  · rename_i fs hu; exact .inr ⟨fs, hu⟩
  · cases h
/-- what is asked of a type, closed -/
structure KeyT (t : TypeId) (m : Nat) : Prop where
  wide : isWide t = true
  at' : Tryd.prog.keyTypeAt m t = true
  tiled : Tryd.prog.tiled m t = true
  small : m + 1 ≤ 10000
  guard : Tryd.prog.eqGuardType Tryd.prog.depth t = false
theorem KeyT.law {t : TypeId} {m : Nat} (h : KeyT t m) : Go.Maps.Keyed Tryd.prog t := Go.Maps.Keyed.of_law (deep_law h.small h.at' h.tiled (by rcases isWide_cases h.wide with ⟨_, _, hu⟩ | ⟨_, hu⟩ <;> simp [hu]))
theorem KeyT.inj {t : TypeId} {m : Nat} (h : KeyT t m) {a b : Value} {l : Lit} (ha : keyOf Tryd.prog t a = some l) (hb : keyOf Tryd.prog t b = some l) : a = b := keyOf_inj_deep h.tiled (by rcases isWide_cases h.wide with ⟨_, _, hu⟩ | ⟨_, hu⟩ <;> simp [hu]) ha hb
theorem KeyT.eq {t : TypeId} {m : Nat} (h : KeyT t m) {a b : Value} (ha : KV t a) (hb : KV t b) : ∃ r : Bool, (r = true ↔ a = b) ∧ ∀ w : World, (Op.equalIn 10000 t a b).run Tryd.prog w = .ok r w := by
  obtain ⟨la, ha⟩ := ha
  obtain ⟨lb, hb⟩ := hb
  haveI := Classical.propDecidable (la = lb)
  refine ⟨decide (la = lb), ?_, fun w => ?_⟩
  · rw [decide_eq_true_eq]
    constructor
    · intro e; subst e; exact h.inj ha hb
    · intro e; subst e; rw [ha] at hb; exact Option.some.inj hb
  · obtain ⟨r, hr, hi⟩ := run_equal_deep w (by have := h.small; omega) h.at' (by rcases isWide_cases h.wide with ⟨_, _, hu⟩ | ⟨_, hu⟩ <;> simp [hu]) ha hb
    have : r = decide (la = lb) := by rw [Bool.eq_iff_iff, decide_eq_true_eq]; exact hi
    rw [← this]
    exact hr
/-- '==', '!=' of two values of a wide type, as rules for the walk -/
theorem KeyT.eql {t : TypeId} {m : Nat} (h : KeyT t m) {xs ys : Array Value} (ha : KV t (.agg xs)) (hb : KV t (.agg ys)) {p : Prop} [Decidable p] (hp : Value.agg xs = .agg ys ↔ p) :
    ∀ w : World, (binOp .eql t (.agg xs) (.agg ys)).run Tryd.prog w = .ok (.bool (decide p)) w := by
  intro w
  obtain ⟨r, hi, hr⟩ := h.eq ha hb
  rw [run_eql_struct, hr w]
  have : r = decide p := by rw [Bool.eq_iff_iff, decide_eq_true_eq, ← hp]; exact hi
  rw [this]
  rfl
theorem KeyT.neq {t : TypeId} {m : Nat} (h : KeyT t m) {xs ys : Array Value} (ha : KV t (.agg xs)) (hb : KV t (.agg ys)) {p : Prop} [Decidable p] (hp : Value.agg xs = .agg ys ↔ p) :
    ∀ w : World, (binOp .neq t (.agg xs) (.agg ys)).run Tryd.prog w = .ok (.bool (!decide p)) w := by
  intro w
  obtain ⟨r, hi, hr⟩ := h.eq ha hb
  rw [run_neq_struct, hr w]
  have : r = decide p := by rw [Bool.eq_iff_iff, decide_eq_true_eq, ← hp]; exact hi
  rw [this]
  rfl
theorem KeyT.guarded {t : TypeId} {m : Nat} (h : KeyT t m) (xs ys : Array Value) : ∀ (op : BinOp) (x y : Operand) (w : World), (eqGuard op t x y (.agg xs) (.agg ys)).run Tryd.prog w = .ok () w :=
  fun op x y w => run_eqGuard_agg w op t x y _ _ h.guard
theorem keyHash : KeyT 23 2 := ⟨by kernel_rfl, by kernel_rfl, by kernel_rfl, by decide, by kernel_rfl⟩
theorem kv_hash {xs : List Nat} (hl : xs.length = 32) (hb : ∀ d ∈ xs, d < 256) : KV 23 (hv xs) :=
  KV.mk keyHash.wide (by kernel_rfl) (by rw [nums_length, hl]; kernel_rfl) (fun d => KL.bytes (d := d + 6) Tryd.underlying23 (by kernel_rfl) hl hb)
theorem keyPoint : KeyT 25 3 := ⟨by kernel_rfl, by kernel_rfl, by kernel_rfl, by decide, by kernel_rfl⟩
end Go.Proofs.YtgaidleepjkldaaDoor

/- The zero values of more than 64 cells, where the seat gives no constants for them. -/
namespace Go.Proofs.YtgaidleepjkldaaDoor
open Go.RowKit

end Go.Proofs.YtgaidleepjkldaaDoor
