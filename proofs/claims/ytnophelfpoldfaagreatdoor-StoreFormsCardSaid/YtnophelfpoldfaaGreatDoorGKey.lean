/- What a slice of numbers reads as; small facts that the walks want. -/
import Derived.Test.YtnophelfpoldfaaGreatDoorChecked
import Derived.WalkKit
import Derived.WalkSpells
import Derived.WalkLawsBesides
import Derived.Deep.QuietTactic
import Derived.BigQuiet
import Derived.Laws.AppendOwnNone
import Derived.RegionTactic
import Derived.BigRegion
import Derived.Laws.BytesArg
import Derived.Stop.BytesEq
import Derived.Laws.Tables
import Derived.Maps.OwnSet
namespace Go.Proofs.YtnophelfpoldfaaGreatDoor
open Go.RowKit

theorem hid {p : Prop} (h : p) : Hid p := h

/-- the world is as it was, but for draws -/
def Qt (w w' : World) : Prop := ∃ q, w' = w.drewN q
theorem Qt.refl (w : World) : Qt w w := ⟨0, rfl⟩
theorem Qt.dN {w v : World} (h : Qt w v) (n : Nat) : Qt w (v.drewN n) := by obtain ⟨q, rfl⟩ := h; exact ⟨q + n, World.drewN_drewN _ _ _⟩
theorem Qt.d {w v : World} (h : Qt w v) : Qt w v.drew := h.dN 1
theorem Qt.trans {u v w : World} (h : Qt u v) (k : Qt v w) : Qt u w := by obtain ⟨q, rfl⟩ := k; exact h.dN q
theorem Qt.below {w w' : World} (h : Qt w w') (B : Nat) : Below B w w' := by obtain ⟨q, rfl⟩ := h; exact below_drewN (Below.refl _ _) q

/-- at a call of a region that only reads: a contract 'w = w'', 'Qt w w'' -/
theorem quiet_same {P : Program} {f : FuncId} {args : Array Value} {w : World} {n : Nat} {v : Value}
    (h : Calls P f args (w.drewN n) fun e w' => e = .returned v ∧ w.drewN n = w') : Calls P f args (w.drewN n) fun e w'' => e = .returned v ∧ ∃ m, w'' = w.drewN m :=
  h.mono fun _ _ ⟨he, hm⟩ => ⟨he, n, hm.symm⟩
theorem quiet_qt {P : Program} {f : FuncId} {args : Array Value} {w : World} {n : Nat} {v : Value}
    (h : Calls P f args (w.drewN n) fun e w' => e = .returned v ∧ Qt (w.drewN n) w') : Calls P f args (w.drewN n) fun e w'' => e = .returned v ∧ ∃ m, w'' = w.drewN m :=
  h.mono fun _ _ ⟨he, q, hm⟩ => ⟨he, n + q, by rw [hm, World.drewN_drewN]⟩
theorem bstep {u v w : World} (h : Below u.heap.size u v) (k : Below v.heap.size v w) : Below u.heap.size u w := h.trans (k.mono h.size)

/-- a slice (address a, n elements of 'size' cells, room for cap) whose cells read as news -/
def Rd (w : World) (size : Nat) (a : Option Addr) (n cap : Nat) (news : List Value) : Prop :=
  news.length = n * size ∧ n ≤ cap ∧ cap ≤ maxLen ∧ (a = none → cap = 0) ∧ ∃ b off, (0 < n → a = some ⟨b, off, none⟩) ∧ ∀ j u, news[j]? = some u → w.cell? ⟨b, off + j, none⟩ = some u
def RdV (w : World) (size : Nat) (v : Value) (news : List Value) : Prop := ∃ a n cap, v = .slice a n cap ∧ Rd w size a n cap news
def nums (k : IntKind) (xs : List Nat) : List Value := xs.map (fun (d : Nat) => Value.int k (d : Int))
@[simp] theorem nums_length (k : IntKind) (xs : List Nat) : (nums k xs).length = xs.length := by simp [nums]
theorem nums_snoc (k : IntKind) {xs : List Nat} {z : Int} {d : Nat} (h : z = (d : Int)) : nums k xs ++ [Value.int k z] = nums k (xs ++ [d]) := by subst h; simp [nums]
theorem nums_append (k : IntKind) (xs ys : List Nat) : nums k xs ++ nums k ys = nums k (xs ++ ys) := by simp [nums]
theorem nums_get (k : IntKind) {xs : List Nat} {j : Nat} (h : j < xs.length) : (nums k xs)[j]? = some (.int k ((xs.getD j 0 : Nat) : Int)) := by simp [nums, List.getElem?_eq_getElem h]
theorem nums_replicate (k : IntKind) (n : Nat) : nums k (List.replicate n 0) = List.replicate n (.int k 0) := by simp [nums]
/-- a slice of numbers -/
def Sl (k : IntKind) (w : World) (a : Option Addr) (n cap : Nat) (xs : List Nat) : Prop := Rd w 1 a n cap (nums k xs)
def SlV (k : IntKind) (w : World) (v : Value) (xs : List Nat) : Prop := ∃ a cap, v = .slice a xs.length cap ∧ Sl k w a xs.length cap xs

theorem Sl.len {k : IntKind} {w : World} {a : Option Addr} {n cap : Nat} {xs : List Nat} (h : Sl k w a n cap xs) : xs.length = n := by have := h.1; simpa using this
theorem Sl.opened {k : IntKind} {w : World} {a : Option Addr} {n cap : Nat} {xs : List Nat} (h : Sl k w a n cap xs) :
    ∃ b off, (0 < n → a = some ⟨b, off, none⟩) ∧ ∀ j, j < n → w.cell? ⟨b, off + j, none⟩ = some (.int k ((xs.getD j 0 : Nat) : Int)) := by
  have hl := h.len
  obtain ⟨_, _, _, _, b, off, ha, hc⟩ := h
  exact ⟨b, off, ha, fun j hj => hc j _ (nums_get k (by omega))⟩
theorem Rd.below {w w' : World} {size : Nat} {a : Option Addr} {n cap : Nat} {xs : List Value} (h : Rd w size a n cap xs) (hb : Below w.heap.size w w') : Rd w' size a n cap xs := by
  obtain ⟨h1, h2, h3, h4, b, off, ha, hc⟩ := h
  refine ⟨h1, h2, h3, h4, b, off, ha, fun j u hu => ?_⟩
  have := hc j u hu
  rw [hb.cell (World.block_lt_of_cell? w _ this)]
  exact this
theorem Sl.below {k : IntKind} {w w' : World} {a : Option Addr} {n cap : Nat} {xs : List Nat} (h : Sl k w a n cap xs) (hb : Below w.heap.size w w') : Sl k w' a n cap xs := Rd.below h hb
theorem SlV.below {k : IntKind} {w w' : World} {v : Value} {xs : List Nat} (h : SlV k w v xs) (hb : Below w.heap.size w w') : SlV k w' v xs := by
  obtain ⟨a, cap, rfl, h1⟩ := h
  exact ⟨a, cap, rfl, h1.below hb⟩
theorem RdV.below {w w' : World} {size : Nat} {v : Value} {xs : List Value} (h : RdV w size v xs) (hb : Below w.heap.size w w') : RdV w' size v xs := by
  obtain ⟨a, n, cap, rfl, h1⟩ := h
  exact ⟨a, n, cap, rfl, h1.below hb⟩
theorem Sl.toV {k : IntKind} {w : World} {a : Option Addr} {n cap : Nat} {xs : List Nat} (h : Sl k w a n cap xs) : SlV k w (.slice a n cap) xs := ⟨a, cap, by rw [h.len], by rw [h.len]; exact h⟩
theorem Rd.of_owns {w : World} {B : Nat} {e : TypeId} {size : Nat} {v : Value} {n : Nat} {xs : List Value} (h : w.ownsRow B e size v n xs) : ∃ a cap, v = .slice a n cap ∧ Rd w size a n cap xs := by
  rcases h.2 with ⟨rfl, rfl⟩ | ⟨g, cap, cur, rfl, _, hg, hn, hm, hs, ht⟩
  · have : xs = [] := List.eq_nil_of_length_eq_zero (by simpa using h.1)
    subst this
    exact ⟨none, 0, rfl, by simp, by simp, by simp, fun _ => rfl, 0, 0, by simp, by simp⟩
  · refine ⟨_, cap, rfl, h.1, hn, hm, (fun e => by cases e), g, 0, fun _ => rfl, fun j u hj => ?_⟩
    have := h.cells (g := g) rfl j u hj
    have hadd : (⟨g, 0, none⟩ : Addr).add j = ⟨g, j, none⟩ := by unfold Addr.add; split <;> simp_all
    rw [hadd] at this
    simpa using this
theorem SlV.of_owns {k : IntKind} {w : World} {B : Nat} {e : TypeId} {v : Value} {n : Nat} {xs : List Nat} (h : w.ownsRow B e 1 v n (nums k xs)) : SlV k w v xs := by
  have hl : xs.length = n := by have := h.1; simpa using this
  subst hl
  obtain ⟨a, cap, rfl, hr⟩ := Rd.of_owns h
  exact ⟨a, cap, rfl, hr⟩
theorem Sl.nilS (k : IntKind) (w : World) {a : Option Addr} {cap : Nat} (h : cap ≤ maxLen) (h' : a = none → cap = 0) : Sl k w a 0 cap [] := ⟨rfl, by omega, h, h', 0, 0, by simp, by simp [nums]⟩
/-- a piece of a slice that begins where it begins -/
theorem Sl.take {k : IntKind} {w : World} {a : Option Addr} {n cap m : Nat} {xs : List Nat} (h : Sl k w a n cap xs) (hm : m ≤ n) : Sl k w a m cap (xs.take m) := by
  have hl := h.len
  obtain ⟨_, h2, h3, h4, b, off, ha, hc⟩ := h
  refine ⟨by simp; omega, by omega, h3, h4, b, off, fun h => ha (by omega), fun j u hu => hc j u ?_⟩
  rw [nums, List.map_take, List.getElem?_take] at hu
  split at hu
  · exact hu
  · cases hu

/-- a new block that a literal slice lies in -/
theorem own_new (w : World) (us : Array Value) (e : TypeId) {size n B : Nat} (hn : us.size = n * size) (hB : B ≤ w.heap.size) (hm : n ≤ maxLen) : (w.alloc (.cells us e)).ownsRow B e size (.slice (some ⟨w.heap.size, 0, none⟩) n n) n us.toList :=
  ⟨by simpa using hn, .inr ⟨w.heap.size, n, us, rfl, hB, heap_alloc_new w _, Nat.le_refl _, hm, hn, List.take_of_length_le (by rw [Array.length_toList, hn]; exact Nat.le_refl _)⟩⟩
theorem sl_of_own {k : IntKind} {e : TypeId} {w : World} {B : Nat} {a : Option Addr} {n cap : Nat} {os : List Nat} (h : w.ownsRow B e 1 (.slice a n cap) n (nums k os)) : Sl k w a n cap os := by
  obtain ⟨a', cap', he, hr⟩ := Rd.of_owns h
  simp only [Value.slice.injEq, true_and] at he
  obtain ⟨rfl, rfl⟩ := he
  exact hr
theorem own_lit (k : IntKind) (w : World) (us : Array Value) (e : TypeId) {n B : Nat} (xs : List Nat) (hn : us.size = n) (hus : us.toList = nums k xs) (hB : B ≤ w.heap.size) (hm : n ≤ maxLen) : (w.alloc (.cells us e)).ownsRow B e 1 (.slice (some ⟨w.heap.size, 0, none⟩) n n) n (nums k xs) := by
  rw [← hus]; exact own_new w us e (by omega) hB hm
theorem sl_lit (k : IntKind) (w : World) (us : Array Value) (e : TypeId) {n : Nat} (xs : List Nat) (hn : us.size = n) (hus : us.toList = nums k xs) (hm : n ≤ maxLen) : Sl k (w.alloc (.cells us e)) (some ⟨w.heap.size, 0, none⟩) n n xs :=
  sl_of_own (own_lit k w us e xs hn hus (Nat.le_refl _) hm)
theorem own_snoc {k : IntKind} {e : TypeId} {w : World} {B : Nat} {v : Value} {xs : List Nat} {z : Int} {d : Nat} (h : w.ownsRow B e 1 v (xs.length + 1) (nums k xs ++ [Value.int k z])) (hz : z = (d : Int)) : w.ownsRow B e 1 v (xs ++ [d]).length (nums k (xs ++ [d])) := by
  rw [nums_snoc k hz] at h; simpa using h
/-- a row of the call's own that is known to begin a block: its cells, a store -/
theorem own_cell {k : IntKind} {e : TypeId} {w : World} {B : Nat} {g n cap : Nat} {os : List Nat} (h : w.ownsRow B e 1 (.slice (some ⟨g, 0, none⟩) n cap) n (nums k os)) (j : Nat) (hj : j < n) : w.cell? ⟨g, j, none⟩ = some (.int k ((os.getD j 0 : Nat) : Int)) := by
  have hl : os.length = n := by have := h.1; simpa using this
  rw [h.cellAt j (by omega)]
  exact nums_get k (by omega)
theorem own_store {k : IntKind} {e : TypeId} {w : World} {B : Nat} {g n cap : Nat} {os : List Nat} (h : w.ownsRow B e 1 (.slice (some ⟨g, 0, none⟩) n cap) n (nums k os)) (j : Nat) {z : Int} {d : Nat} (hz : z = (d : Int)) :
    (w.setCell ⟨g, j, none⟩ (.int k z)).ownsRow B e 1 (.slice (some ⟨g, 0, none⟩) n cap) n (nums k (os.set j d)) ∧ Below B w (w.setCell ⟨g, j, none⟩ (.int k z)) := by
  subst hz
  have := h.stored j (.int k (d : Int))
  refine ⟨by simpa [nums, List.map_set] using this.1, (Below.refl B w).setCell ?_ _⟩
  exact (h.lt g rfl).1

/-- a slice type's rows of the program's tables: type t, a slice of e; an element has 'size' cells, 'bytes' bytes, the zero value z -/
structure SliceTy (P : Program) (t e : TypeId) (size bytes : Nat) (z : Value) : Prop where
  ex : ∃ i, P.underlying t = some (.slice e) ∧ P.info? e = some i ∧ i.zero = some z ∧ i.size = size ∧ i.bytes = bytes
  zs : z.cells.size = size
  pos : 0 < size
theorem SliceTy.mk' {P : Program} {t e : TypeId} {z : Value} {size bytes : Nat} (ht : P.underlying t = some (.slice e)) (h : (P.info? e).map (fun i => (i.zero, i.size, i.bytes)) = some (some z, size, bytes)) (zs : z.cells.size = size) (pos : 0 < size) : SliceTy P t e size bytes z := by
  obtain ⟨i, h1, h2, h3, h4⟩ := info_parts h
  exact ⟨⟨i, ht, h1, h2, h3, h4⟩, zs, pos⟩

theorem cells_new (w : World) (us : Array Value) (e : TypeId) : ∀ j u, us.toList[j]? = some u → (w.alloc (.cells us e)).cell? ((⟨w.heap.size, 0, none⟩ : Addr).add j) = some u := by
  intro j u hu
  have hadd : (⟨w.heap.size, 0, none⟩ : Addr).add j = ⟨w.heap.size, j, none⟩ := by unfold Addr.add; split <;> simp_all
  rw [hadd, cell_of_row (w.alloc (.cells us e)) w.heap.size j us e (0, 0) (heap_alloc_new w _)]
  simpa using hu

/-- 'append(s, x)': s nil or the call's own; x lies in a block of its own -/
theorem wpList_push {P : Program} {ops : Array Oper} {rest : List Oper} {o : Oper} {a : Act} {Q : Exit → Act → World → Prop} {w : World} (hgd : o.guard = none) (s x : Operand) (t : TypeId)
    (ho : o.op = .call { callee := .builtin .append, args := #[s, x], argTypes := #[t, t] })
    {e : TypeId} {size bytes : Nat} {z : Value} (ty : SliceTy P t e size bytes z) (B : Nat) {v : Value} {n : Nat} {xs : List Value} (hown : w.ownsRow B e size v n xs) (hs : a.eval s = v)
    {us : Array Value} {et : TypeId} (hx : a.eval x = .slice (some ⟨w.heap.size, 0, none⟩) 1 1) (hl : us.size = size) (h1 : us.toList.all Value.oneCell' = true) (hn : n < 4294967296) (hby : bytes ≤ 16384) (hB : B ≤ w.heap.size)
    (h : ∀ v' w', w'.ownsRow B e size v' (n + 1) (xs ++ us.toList) → Below B w w' → w.heap.size < w'.heap.size → v' ≠ .slice none 0 0 → wpList P ops Q rest (a.put o.dst v') w') : wpList P ops Q (o :: rest) a (w.alloc (.cells us et)) := by
  obtain ⟨i, ht, hi, hz, hsz, hb⟩ := ty.ex
  refine wpList_append_own _ hgd s x t ho B e i z size bytes ht hi hz hsz hb ty.zs ty.pos v n xs hs (hown.alloc _) ⟨w.heap.size, 0, none⟩ 1 1 us.toList hx (by simp [hl]) (cells_new w us et) (fun u hu => List.all_eq_true.1 h1 u hu) ?_ ?_ (by simp; omega) ?_
  · unfold maxLen; omega
  · have : (n + 1) * bytes ≤ 4294967296 * 16384 := Nat.mul_le_mul (by omega) hby
    omega
  · intro v' w' h2 h3 h4
    have hsz := h3.size
    simp at hsz
    refine h v' w' h2 ?_ (by omega) (fun hv => by have := h4.1 hv; simp at this)
    exact ((Below.refl B w).alloc hB _).grown h3 (by simp; omega) (fun k hk => (hown.lt k hk).1)

theorem madeCells_one (z : Value) (hz : z.cells = #[z]) (N : Nat) : (madeCells z.cells (N * 1)).toList = List.replicate N z := by
  rw [hz, Nat.mul_one]
  simp [madeCells, List.eq_replicate_iff, Nat.mod_one]

/-- 'make([]T, N)', N a number that the walk has reckoned; T of one cell -/
theorem wpList_mk {P : Program} {w : World} {ops : Array Oper} {rest : List Oper} {o : Oper} {a : Act} {Q : Exit → Act → World → Prop} (hg : o.guard = none) (l c : Operand) (t : TypeId) (hop : o.op = Op.makeSlice t l c)
    {e : TypeId} {bytes : Nat} {z : Value} (ty : SliceTy P t e 1 bytes z) (hz1 : z.cells = #[z]) (B N : Nat) {kl kc : IntKind} {L C : Int} (hl : a.eval l = .int kl L) (hc : a.eval c = .int kc C) (hL : L = (N : Int)) (hC : C = (N : Int))
    (hN : N < 4294967296) (hby : bytes ≤ 16384) (hB : B ≤ w.heap.size)
    (hK : ∀ w', w'.ownsRow B e 1 (.slice (some ⟨w.heap.size, 0, none⟩) N N) N (List.replicate N z) → Below B w w' → w.heap.size < w'.heap.size → wpList P ops Q rest (a.put o.dst (.slice (some ⟨w.heap.size, 0, none⟩) N N)) w') :
    wpList P ops Q (o :: rest) a w := by
  obtain ⟨i, ht, hi, hz, hsz, hb⟩ := ty.ex
  refine wpList_make_full w hg l c t hop B e i z 1 ht hi hz hsz kl kc L C N hl hc hL hC ?_ ?_ hB ?_
  · rw [hb]
    have : bytes * N ≤ 16384 * 4294967296 := Nat.mul_le_mul hby (by omega)
    omega
  · unfold maxLen; omega
  · intro w' h1 h2
    rw [madeCells_one z hz1] at h1
    exact hK w' h1 ((Below.refl B w).grown h2 hB (fun k hk => by cases hk)) ((h1.lt _ rfl).2)

/-- 'append(s, x...)': s nil or the call's own; x whatever slice that can be read -/
theorem wpList_cat {P : Program} {ops : Array Oper} {rest : List Oper} {o : Oper} {a : Act} {Q : Exit → Act → World → Prop} {w : World} (hgd : o.guard = none) (s x : Operand) (t : TypeId)
    (ho : o.op = .call { callee := .builtin .append, args := #[s, x], argTypes := #[t, t] })
    {e : TypeId} {size bytes : Nat} {z : Value} (ty : SliceTy P t e size bytes z) (B : Nat) {v : Value} {n : Nat} {xs : List Value} (hown : w.ownsRow B e size v n xs) (hs : a.eval s = v)
    {ad : Option Addr} {m c : Nat} {news : List Value} (hx : a.eval x = .slice ad m c) (hrd : Rd w size ad m c news) (h1 : ∀ u ∈ news, u.oneCell' = true) (hn : (n + m) * bytes ≤ 140737488355328) (hn' : n + m ≤ maxLen) (hB : B ≤ w.heap.size)
    (h : ∀ v' w', w'.ownsRow B e size v' (n + m) (xs ++ news) → Below B w w' → w.heap.size ≤ w'.heap.size → (v ≠ .slice none 0 0 → v' ≠ .slice none 0 0) → wpList P ops Q rest (a.put o.dst v') w') : wpList P ops Q (o :: rest) a w := by
  obtain ⟨i, ht, hi, hz, hsz, hb⟩ := ty.ex
  obtain ⟨r1, r2, r3, r4, b, off, ha, hc⟩ := hrd
  cases ad with
  | none =>
    have hc0 := r4 rfl
    subst hc0
    obtain rfl : m = 0 := by omega
    have hnil : news = [] := List.eq_nil_of_length_eq_zero (by simpa using r1)
    subst hnil
    refine wpList_append_own_none hgd s x t ho B e i size ht hi v n xs hs hown hx ?_
    exact h v w (by simpa using hown) (Below.refl _ _) (Nat.le_refl _) id
  | some ad =>
    refine wpList_append_own _ hgd s x t ho B e i z size bytes ht hi hz hsz hb ty.zs ty.pos v n xs hs hown ad m c news hx r1 ?_ h1 hn' hn hB ?_
    · intro j u hu
      have hm : 0 < m := by
        rcases Nat.eq_zero_or_pos m with h0 | h0
        · subst h0
          have hnil : news = [] := List.eq_nil_of_length_eq_zero (by simpa using r1)
          subst hnil
          simp at hu
        · exact h0
      have := ha hm
      simp only [Option.some.injEq] at this
      subst this
      have hadd : (⟨b, off, none⟩ : Addr).add j = ⟨b, off + j, none⟩ := by unfold Addr.add; split <;> simp_all
      rw [hadd]
      exact hc j u hu
    · intro v' w' h2 h3 h4
      exact h v' w' h2 ((Below.refl B w).grown h3 hB (fun k hk => (hown.lt k hk).1)) h3.size (fun hv hv' => hv (h4.1 hv').1)
theorem nums_oneCell (k : IntKind) (xs : List Nat) : ∀ u ∈ nums k xs, u.oneCell' = true := by
  intro u hu
  simp only [nums, List.mem_map] at hu
  obtain ⟨d, _, rfl⟩ := hu
  rfl

theorem own_below {w w' : World} {B : Nat} {e : TypeId} {size : Nat} {v : Value} {n : Nat} {xs : List Value} (h : w.ownsRow B e size v n xs) (hb : Below w.heap.size w w') : w'.ownsRow B e size v n xs := by
  refine ⟨h.1, ?_⟩
  rcases h.2 with hn | ⟨g, cap, cur, rfl, hb0, hg, rest⟩
  · exact .inl hn
  · exact .inr ⟨g, cap, cur, rfl, hb0, by rw [hb.block g (Array.getElem?_eq_some_iff.1 hg).1]; exact hg, rest⟩
theorem own_mono {w : World} {B B' : Nat} {e : TypeId} {size : Nat} {v : Value} {n : Nat} {xs : List Value} (h : w.ownsRow B e size v n xs) (hB : B' ≤ B) : w.ownsRow B' e size v n xs := by
  refine ⟨h.1, ?_⟩
  rcases h.2 with hn | ⟨g, cap, cur, rfl, hb0, rest⟩
  · exact .inl hn
  · exact .inr ⟨g, cap, cur, rfl, by omega, rest⟩
/-- a row of another type is not what has grown -/
theorem own_grew {w w' : World} {B B' : Nat} {e e' : TypeId} {size size' : Nat} {v v' : Value} {n n' : Nat} {xs xs' : List Value} (h : w.ownsRow B e size v n xs) (k : w.ownsRow B' e' size' v' n' xs') (he : e ≠ e') (hg : w.grownBy w' v'.ownBlock) : w'.ownsRow B e size v n xs := by
  refine ⟨h.1, ?_⟩
  rcases h.2 with hn | ⟨g, cap, cur, rfl, hb0, hgc, rest⟩
  · exact .inl hn
  · refine .inr ⟨g, cap, cur, rfl, hb0, ?_, rest⟩
    rw [hg.block g (Array.getElem?_eq_some_iff.1 hgc).1]
    · exact hgc
    · intro hb
      rcases k.2 with ⟨rfl, _⟩ | ⟨g', cap', cur', rfl, _, hgc', _⟩
      · simp [Value.ownBlock] at hb
      · simp [Value.ownBlock] at hb
        subst hb
        rw [hgc] at hgc'
        simp at hgc'
        exact he hgc'.2
theorem own_addr {w : World} {B : Nat} {e : TypeId} {size n m cap : Nat} {a : Option Addr} {xs : List Value} (h : w.ownsRow B e size (.slice a n cap) m xs) (hn : 0 < n) : ∃ g, a = some ⟨g, 0, none⟩ ∧ n ≤ cap := by
  rcases h.2 with ⟨h', _⟩ | ⟨g, cap', cur, h', _, _, hnc, _⟩
  · simp at h'; omega
  · simp at h'
    obtain ⟨rfl, rfl, rfl⟩ := h'
    exact ⟨g, rfl, hnc⟩
theorem own_of_heap {w : World} {g n B : Nat} {arr : Array Value} {e : TypeId} {L : List Value} (h : w.heap[g]? = some (.cells arr e (0, 0))) (hl : arr.toList = L) (hn : L.length = n) (hB : B ≤ g) (hm : n ≤ maxLen) : w.ownsRow B e 1 (.slice (some ⟨g, 0, none⟩) n n) n L :=
  ⟨by omega, .inr ⟨g, n, arr, rfl, hB, h, Nat.le_refl _, hm, by rw [← Array.length_toList, hl]; omega, by rw [hl]; exact List.take_of_length_le (by omega)⟩⟩
/-- all but block H is as it was (new blocks may be there) -/
def Far (H : Nat) (w w' : World) : Prop := w.grownBy w' (some H)
theorem Far.refl (H : Nat) (w : World) : Far H w w := ⟨rfl, rfl, rfl, Nat.le_refl _, fun _ _ _ => rfl⟩
theorem Far.trans {H : Nat} {u v w : World} (h : Far H u v) (k : Far H v w) : Far H u w :=
  ⟨k.os.trans h.os, k.tape.trans h.tape, k.output.trans h.output, Nat.le_trans h.size k.size, fun i hi hn => (k.block i (Nat.lt_of_lt_of_le hi h.size) hn).trans (h.block i hi hn)⟩
theorem Far.of {H : Nat} {w w' : World} (h : Below w.heap.size w w') : Far H w w' := ⟨h.os, h.tape, h.output, h.size, fun i hi _ => h.block i hi⟩
theorem Far.set {H j : Nat} {w : World} (u : Value) : Far H w (w.setCell ⟨H, j, none⟩ u) :=
  have h := (Below.refl 0 w).setCell (p := ⟨H, j, none⟩) (Nat.zero_le _) u
  ⟨h.os, h.tape, h.output, h.size, fun i _ hn => Below.heap_setCell w _ u i (by simpa using hn)⟩
theorem Far.below {H B : Nat} {w w' : World} (h : Far H w w') (hB : B ≤ H) (hB' : B ≤ w.heap.size) : Below B w w' := ⟨h.os, h.tape, h.output, h.size, fun i hi => h.block i (by omega) (by simp; omega)⟩
theorem Far.rd {H : Nat} {w w' : World} {size : Nat} {a : Option Addr} {n cap : Nat} {xs : List Value} (h : Rd w size a n cap xs) (hf : Far H w w') (hne : ∀ b off, a = some ⟨b, off, none⟩ → b ≠ H) : Rd w' size a n cap xs := by
  obtain ⟨h1, h2, h3, h4, b, off, ha, hc⟩ := h
  refine ⟨h1, h2, h3, h4, b, off, ha, fun j u hu => ?_⟩
  have hc' := hc j u hu
  have hj : 0 < n := by
    rcases Nat.eq_zero_or_pos n with h0 | h0
    · subst h0
      have := (List.getElem?_eq_some_iff.1 hu).1
      omega
    · exact h0
  rw [World.cell?_of_block (hf.block b (World.block_lt_of_cell? w _ hc') (by simpa using hne b off (ha hj)))]
  exact hc'
theorem Far.own {H : Nat} {w w' : World} {B : Nat} {e : TypeId} {size : Nat} {v : Value} {n : Nat} {xs : List Value} (h : w.ownsRow B e size v n xs) (hf : Far H w w') (hne : v.ownBlock ≠ some H) : w'.ownsRow B e size v n xs := by
  refine ⟨h.1, ?_⟩
  rcases h.2 with hn | ⟨g, cap, cur, rfl, hb0, hg, rest⟩
  · exact .inl hn
  · refine .inr ⟨g, cap, cur, rfl, hb0, ?_, rest⟩
    rw [hf.block g (Array.getElem?_eq_some_iff.1 hg).1 (by simpa [Value.ownBlock] using hne)]
    exact hg

end Go.Proofs.YtnophelfpoldfaaGreatDoor

/- Slices of bytes: their type's rows, strings made of them. -/
namespace Go.Proofs.YtnophelfpoldfaaGreatDoor
open Go.RowKit

theorem infoU8 : (Tryz.prog.info? 5).map (fun i => (i.zero, i.size, i.bytes)) = some (some (.int .u8 0), 1, 1) := by kernel_rfl
theorem tyBs : SliceTy Tryz.prog 22 5 1 1 (.int .u8 0) := .mk' Tryz.underlying22 infoU8 rfl (by decide)

def bytesOf (xs : List Nat) : ByteArray := strOfNums (xs.map (fun (d : Nat) => (d : Int)))
theorem conv_bytes {P : Program} {w : World} {a : Option Addr} {n cap : Nat} {xs : List Nat} (h : Sl .u8 w a n cap xs) {src e dst : TypeId} (hs : P.underlying src = some (.slice e)) (he : P.underlying e = some (.int .u8)) (hd : P.underlying dst = some .string) :
    (convert src dst (.slice a n cap)).run P w = .ok (.string (bytesOf xs)) w := by
  have hl := h.len
  have h2 := h.2.1
  have h4 := h.2.2.2.1
  obtain ⟨b, off, ha, hc⟩ := h.opened
  cases a with
  | none =>
    have := h4 rfl
    obtain rfl : n = 0 := by omega
    have hx : xs = [] := List.eq_nil_of_length_eq_zero hl
    subst hx
    exact run_convert_bytes_nil w src e hs he 0 cap dst hd
  | some x =>
    rcases Nat.eq_zero_or_pos n with h0 | h0
    · subst h0
      have hx : xs = [] := List.eq_nil_of_length_eq_zero hl
      subst hx
      have hld := run_loadCells_list (P := P) w x [] (fun j v hj => by simp at hj)
      rw [run_convert_bytes_string w src dst e _ 0 cap hs he hd, run_bytesToString w x 0 cap [] hld]
      rfl
    · have := ha h0
      simp only [Option.some.injEq] at this
      subst this
      refine run_convert_bytes_arg w src e hs he b off n cap _ (by simpa using hl) (fun i hi => ?_) dst hd
      rw [hc i hi]
      simp [List.getElem?_eq_getElem (show i < xs.length by omega)]
theorem bytesOf_toList (xs : List Nat) : (bytesOf xs).toList = xs.map (fun d => UInt8.ofNat d) := by
  rw [ByteArray.toList_eq]
  simp [bytesOf, strOfNums, List.map_map]
theorem map_u8_inj {xs ys : List Nat} (hx : ∀ d ∈ xs, d < 256) (hy : ∀ d ∈ ys, d < 256) (h : xs.map (fun d => UInt8.ofNat d) = ys.map (fun d => UInt8.ofNat d)) : xs = ys := by
  induction xs generalizing ys with
  | nil => cases ys with
    | nil => rfl
    | cons y r => simp at h
  | cons x r ih => cases ys with
    | nil => simp at h
    | cons y t =>
      simp only [List.map_cons, List.cons.injEq] at h
      have h1 := hx x (by simp)
      have h2 := hy y (by simp)
      have h3 : x = y := by
        have := congrArg UInt8.toNat h.1
        simp at this
        omega
      rw [h3, ih (fun d hd => hx d (by simp [hd])) (fun d hd => hy d (by simp [hd])) h.2]
theorem bytesOf_eq {xs ys : List Nat} (hx : ∀ d ∈ xs, d < 256) (hy : ∀ d ∈ ys, d < 256) : ((bytesOf xs).toList == (bytesOf ys).toList) = decide (xs = ys) := by
  rw [bytesOf_toList, bytesOf_toList, Bool.eq_iff_iff, beq_iff_eq, decide_eq_true_eq]
  exact ⟨map_u8_inj hx hy, fun h => by rw [h]⟩

theorem same_walk (a a' : Option Addr) (n cap m cap' : Nat) (xs ys : List Nat) (hx : ∀ d ∈ xs, d < 256) (hy : ∀ d ∈ ys, d < 256) (w : World) (h : Sl .u8 w a n cap xs) (h' : Sl .u8 w a' m cap' ys) :
    Calls Tryz.prog 17 #[.slice a n cap, .slice a' m cap'] w fun e w' => e = .returned (.bool (decide (xs = ys))) ∧ w = w' := by
  have c1 := conv_bytes h Tryz.underlying22 Tryz.underlying5 Tryz.underlying9
  have c2 := conv_bytes h' Tryz.underlying22 Tryz.underlying5 Tryz.underlying9
  have e := hid (bytesOf_eq hx hy)
  clear h h'
  go_enter Tryz.func17, Tryz.ntmps17
  go_wp2
  go_ret
  exact ⟨by rw [← e.out]; rfl, rfl⟩
theorem same_self (a a' : Option Addr) (n cap m cap' : Nat) (xs : List Nat) (hx : ∀ d ∈ xs, d < 256) (w : World) (h : Sl .u8 w a n cap xs) (h' : Sl .u8 w a' m cap' xs) :
    Calls Tryz.prog 17 #[.slice a n cap, .slice a' m cap'] w fun e w' => e = .returned (.bool true) ∧ w = w' := by
  refine (same_walk a a' n cap m cap' xs xs hx hx w h h').mono ?_
  rintro e w' ⟨rfl, rfl⟩
  exact ⟨by rw [decide_eq_true rfl], rfl⟩
end Go.Proofs.YtnophelfpoldfaaGreatDoor

/- Arrays of bytes as values; whether two are the same. -/
namespace Go.Proofs.YtnophelfpoldfaaGreatDoor
open Go.RowKit
open Extern.Stop (cell)

/-- an array of bytes -/
def hv (xs : List Nat) : Value := .agg (nums .u8 xs).toArray
theorem nums_cell {xs : List Nat} (h : ∀ d ∈ xs, d < 256) : nums .u8 xs = (xs.map (fun d => UInt8.ofNat d)).map cell := by
  rw [nums, List.map_map]
  apply List.map_congr_left
  intro d hd
  have := h d hd
  simp only [Function.comp_apply, cell]
  congr 1
  simp
  omega
theorem szU8' (w : World) : (sizeOf 5).run Tryz.prog w = .ok 1 w := by
  have h := infoU8
  cases hi : Tryz.prog.info? 5 with
  | none => rw [hi] at h; cases h
  | some i =>
    rw [hi] at h
    simp only [Option.map_some, Option.some.injEq, Prod.mk.injEq] at h
    simp [sizeOf, typeInfo, hi, h.2.1]
theorem u8s_eq {xs ys : List Nat} (hx : ∀ d ∈ xs, d < 256) (hy : ∀ d ∈ ys, d < 256) : ((xs.map (fun d => UInt8.ofNat d)) == (ys.map (fun d => UInt8.ofNat d))) = decide (xs = ys) := by
  rw [Bool.eq_iff_iff, beq_iff_eq, decide_eq_true_eq]
  exact ⟨map_u8_inj hx hy, fun h => by rw [h]⟩
theorem run_eqIn_hv {t : TypeId} {n : Nat} (ht : Tryz.prog.underlying t = some (.array n 5)) (w : World) (d : Nat) {xs ys : List Nat} (lx : xs.length = n) (ly : ys.length = n) (hx : ∀ d ∈ xs, d < 256) (hy : ∀ d ∈ ys, d < 256) :
    (Op.equalIn (d + 2) t (hv xs) (hv ys)).run Tryz.prog w = .ok (decide (xs = ys)) w := by
  unfold hv
  rw [nums_cell hx, nums_cell hy, run_equalIn_bytes w d t 5 n ht Tryz.underlying5 szU8' _ _ (by simpa using lx) (by simpa using ly), u8s_eq hx hy]
theorem run_eql_hv {t : TypeId} {n : Nat} (ht : Tryz.prog.underlying t = some (.array n 5)) (w : World) {xs ys : List Nat} (lx : xs.length = n) (ly : ys.length = n) (hx : ∀ d ∈ xs, d < 256) (hy : ∀ d ∈ ys, d < 256) :
    (binOp .eql t (hv xs) (hv ys)).run Tryz.prog w = .ok (.bool (decide (xs = ys))) w := by
  unfold hv
  rw [run_eql_struct]
  have := run_eqIn_hv ht w 9998 lx ly hx hy
  unfold hv at this
  rw [this]
  rfl
theorem run_neq_hv {t : TypeId} {n : Nat} (ht : Tryz.prog.underlying t = some (.array n 5)) (w : World) {xs ys : List Nat} (lx : xs.length = n) (ly : ys.length = n) (hx : ∀ d ∈ xs, d < 256) (hy : ∀ d ∈ ys, d < 256) :
    (binOp .neq t (hv xs) (hv ys)).run Tryz.prog w = .ok (.bool (!decide (xs = ys))) w := by
  unfold hv
  rw [run_neq_struct]
  have := run_eqIn_hv ht w 9998 lx ly hx hy
  unfold hv at this
  rw [this]
  rfl
theorem guardH : Tryz.prog.eqGuardType Tryz.prog.depth 62 = false := by kernel_rfl
theorem infoH : (Tryz.prog.info? 62).map (·.size) = some 32 := by kernel_rfl
/-- '==' on digests: the two rules for the walk -/
theorem guard_hv (xs ys : List Nat) : ∀ (op : BinOp) (x y : Operand) (w : World), (eqGuard op 62 x y (hv xs) (hv ys)).run Tryz.prog w = .ok () w := by
  intro op x y w
  exact run_eqGuard_agg w op 62 x y _ _ guardH
theorem eql_hv {xs ys : List Nat} (lx : xs.length = 32) (ly : ys.length = 32) (hx : ∀ d ∈ xs, d < 256) (hy : ∀ d ∈ ys, d < 256) : ∀ w : World, (binOp .eql 62 (hv xs) (hv ys)).run Tryz.prog w = .ok (.bool (decide (xs = ys))) w :=
  fun w => run_eql_hv Tryz.underlying62 w lx ly hx hy
theorem neq_hv {xs ys : List Nat} (lx : xs.length = 32) (ly : ys.length = 32) (hx : ∀ d ∈ xs, d < 256) (hy : ∀ d ∈ ys, d < 256) : ∀ w : World, (binOp .neq 62 (hv xs) (hv ys)).run Tryz.prog w = .ok (.bool (!decide (xs = ys))) w :=
  fun w => run_neq_hv Tryz.underlying62 w lx ly hx hy
/-- a digest stored into a variable of its own -/
theorem wpList_storeH {w : World} {ops : Array Oper} {rest : List Oper} {o : Oper} {a : Act} {Q : Exit → Act → World → Prop} (hgd : o.guard = none) (x y : Operand) (ho : o.op = .store 62 x y)
    (g : Nat) (hx : a.eval x = .pointer (some ⟨g, 0, none⟩)) {zs : List Nat} (hy : a.eval y = hv zs) (hl : zs.length = 32) {old : Array Value} {t : TypeId} (hg : w.heap[g]? = some (.cells old t (0, 0))) (hold : old.size = 32)
    (h : ∀ w', w'.heap[g]? = some (.cells (nums .u8 zs).toArray t (0, 0)) → Far g w w' → wpList Tryz.prog ops Q rest (a.put o.dst undef) w') : wpList Tryz.prog ops Q (o :: rest) a w := by
  have hsz : (nums .u8 zs).toArray.size = 32 := by rw [List.size_toArray, nums_length, hl]
  refine wpList_store_row hgd _ x y ho g (nums .u8 zs).toArray hx hy t old hg (by rw [hsz]; exact infoH) (by rw [hsz]; exact hold) (by simp [nums, Value.oneCell']) ?_
  exact h _ (setRow_heap w g _ _ t _ hg) ⟨rfl, rfl, rfl, by simp [World.setRow], fun k _ hk => setRow_other w g k _ (by simpa using hk)⟩
end Go.Proofs.YtnophelfpoldfaaGreatDoor

/- Values that can be compared and be keys of maps, whatever their shape: numbers, bools, arrays, structs. -/
namespace Go.Proofs.YtnophelfpoldfaaGreatDoor
open Go.RowKit

def KL (d : Nat) (t : TypeId) (cs : List Value) : Prop := ∃ ls, Tryz.prog.keyLits d t cs = some ls
theorem KL.int {d : Nat} {t : TypeId} {k : IntKind} {n : Int} (ht : Tryz.prog.underlying t = some (.int k)) (hw : (Lit.int k n).wf = true) : KL (d + 1) t [.int k n] := by
  refine ⟨[.int k n], ?_⟩
  simp [Program.keyLits, ht, hw]
theorem KL.bool {d : Nat} {t : TypeId} {b : Bool} (ht : Tryz.prog.underlying t = some .bool) : KL (d + 1) t [.bool b] := by
  refine ⟨[.bool b], ?_⟩
  simp [Program.keyLits, ht]
theorem mapM_some' {α β : Type} {f : α → Option β} : ∀ {l : List α}, (∀ x ∈ l, ∃ y, f x = some y) → ∃ ys, l.mapM f = some ys
  | [], _ => ⟨[], rfl⟩
  | x :: r, h => by
    obtain ⟨y, hy⟩ := h x (by simp)
    obtain ⟨ys, hys⟩ := mapM_some' (l := r) (fun z hz => h z (by simp [hz]))
    exact ⟨y :: ys, by simp [List.mapM_cons, hy, hys]⟩
theorem KL.array {d : Nat} {t e : TypeId} {n : Nat} {cs : List Value} (ht : Tryz.prog.underlying t = some (.array n e)) (hl : cs.length = Tryz.prog.cellsOf t)
    (h : ∀ i, i < n → KL d e ((cs.drop (i * Tryz.prog.cellsOf e)).take (Tryz.prog.cellsOf e))) : KL (d + 1) t cs := by
  obtain ⟨ys, hy⟩ := mapM_some' (f := fun i => Tryz.prog.keyLits d e ((cs.drop (i * Tryz.prog.cellsOf e)).take (Tryz.prog.cellsOf e))) (l := List.range n) (fun i hi => h i (by simpa using hi))
  refine ⟨ys.flatten, ?_⟩
  simp only [Program.keyLits, ht, hl, if_true, hy, Option.map_some]
theorem KL.struct {d : Nat} {t : TypeId} {fs : Array Field} {cs : List Value} (ht : Tryz.prog.underlying t = some (.struct fs)) (hl : cs.length = Tryz.prog.cellsOf t) (hn : fs.all (·.name != "_") = true)
    (h : ∀ f ∈ fs.toList, KL d f.type ((cs.drop f.offset).take (Tryz.prog.cellsOf f.type))) : KL (d + 1) t cs := by
  obtain ⟨ys, hy⟩ := mapM_some' (f := fun f : Field => Tryz.prog.keyLits d f.type ((cs.drop f.offset).take (Tryz.prog.cellsOf f.type))) (l := fs.toList) h
  refine ⟨ys.flatten, ?_⟩
  simp only [Program.keyLits, ht, hl, hn, and_self, if_true, hy, Option.map_some]
theorem cellsU8 : Tryz.prog.cellsOf 5 = 1 := by kernel_rfl
theorem u8_wf {n : Nat} (h : n < 256) : (Lit.int .u8 (n : Int)).wf = true := by
  simp [Lit.wf, IntKind.min, IntKind.max, IntKind.signed, IntKind.bits]; omega
theorem u64_wf {n : Nat} (h : n < 18446744073709551616) : (Lit.int .u64 (n : Int)).wf = true := by
  simp [Lit.wf, IntKind.min, IntKind.max, IntKind.signed, IntKind.bits]; omega
theorem i64_wf {z : Int} (h1 : -9223372036854775808 ≤ z) (h2 : z ≤ 9223372036854775807) : (Lit.int .i64 z).wf = true := by
  simp [Lit.wf, IntKind.min, IntKind.max, IntKind.signed, IntKind.bits]; omega
theorem KL.bytes {d n : Nat} {t : TypeId} (ht : Tryz.prog.underlying t = some (.array n 5)) (hc : Tryz.prog.cellsOf t = n) {xs : List Nat} (hl : xs.length = n) (hb : ∀ d ∈ xs, d < 256) : KL (d + 2) t (nums .u8 xs) := by
  refine KL.array ht (by rw [nums_length, hl, hc]) fun i hi => ?_
  have h1 : (List.drop (i * Tryz.prog.cellsOf 5) (nums .u8 xs)).take (Tryz.prog.cellsOf 5) = [.int .u8 ((xs.getD i 0 : Nat) : Int)] := by
    rw [cellsU8, Nat.mul_one]
    have hi' : i < (nums .u8 xs).length := by rw [nums_length]; omega
    rw [List.drop_eq_getElem_cons hi', List.take_succ_cons, List.take_zero]
    have := nums_get .u8 (show i < xs.length by omega)
    rw [List.getElem?_eq_getElem hi'] at this
    rw [Option.some.inj this]
  rw [h1]
  refine KL.int Tryz.underlying5 (u8_wf ?_)
  rw [List.getD_eq_getElem?_getD, List.getElem?_eq_getElem (by omega)]
  exact hb _ (List.getElem_mem _)
/-- a value that can be compared -/
def KV (t : TypeId) (v : Value) : Prop := ∃ l, keyOf Tryz.prog t v = some l
theorem tsz : ∃ m, Tryz.prog.types.size = m + 8 := ⟨Tryz.prog.types.size - 8, by have : 8 ≤ Tryz.prog.types.size := of_decide_eq_true (by kernel_rfl); omega⟩
/-- an array or a struct -/
noncomputable def isWide (t : TypeId) : Bool := match Tryz.prog.underlying t with | some (.array _ _) | some (.struct _) => true | _ => false
theorem KV.mk {t : TypeId} {cs : List Value} (hw : isWide t = true) (hk : Tryz.prog.keyType t = true) (hl : cs.length = Tryz.prog.cellsOf t) (h : ∀ d, KL (d + 8) t cs) : KV t (.agg cs.toArray) := by
  obtain ⟨m, hm⟩ := tsz
  obtain ⟨ls, hls⟩ := h (m + 1)
  have e1 : Tryz.prog.types.size + 1 = m + 1 + 8 := by omega
  have hf : (Value.agg cs.toArray).formed Tryz.prog t = true := by
    unfold isWide at hw
    unfold Value.formed
    split at hw <;> simp_all
  refine ⟨.string (keyBytes ls), ?_⟩
  unfold isWide at hw
  unfold keyOf
  split at hw
  · rename_i hu
    simp only [hu, hk, hf, Bool.and_self, if_true]
    rw [e1, show (Value.agg cs.toArray).cells.toList = cs from rfl, hls]
    rfl
  · rename_i hu
    simp only [hu, hk, hf, Bool.and_self, if_true]
    rw [e1, show (Value.agg cs.toArray).cells.toList = cs from rfl, hls]
    rfl
  · cases hw
theorem isWide_cases {t : TypeId} (h : isWide t = true) : (∃ n e, Tryz.prog.underlying t = some (.array n e)) ∨ ∃ fs, Tryz.prog.underlying t = some (.struct fs) := by
  unfold isWide at h
  split at h
  · rename_i n e hu; exact .inl ⟨n, e, hu⟩
  · rename_i fs hu; exact .inr ⟨fs, hu⟩
  · cases h
/-- what is asked of a type, closed -/
structure KeyT (t : TypeId) (m : Nat) : Prop where
  wide : isWide t = true
  at' : Tryz.prog.keyTypeAt m t = true
  tiled : Tryz.prog.tiled m t = true
  small : m + 1 ≤ 10000
  guard : Tryz.prog.eqGuardType Tryz.prog.depth t = false
theorem KeyT.law {t : TypeId} {m : Nat} (h : KeyT t m) : Go.Maps.Keyed Tryz.prog t := Go.Maps.Keyed.of_law (deep_law h.small h.at' h.tiled (by rcases isWide_cases h.wide with ⟨_, _, hu⟩ | ⟨_, hu⟩ <;> simp [hu]))
theorem KeyT.inj {t : TypeId} {m : Nat} (h : KeyT t m) {a b : Value} {l : Lit} (ha : keyOf Tryz.prog t a = some l) (hb : keyOf Tryz.prog t b = some l) : a = b := keyOf_inj_deep h.tiled (by rcases isWide_cases h.wide with ⟨_, _, hu⟩ | ⟨_, hu⟩ <;> simp [hu]) ha hb
theorem KeyT.eq {t : TypeId} {m : Nat} (h : KeyT t m) {a b : Value} (ha : KV t a) (hb : KV t b) : ∃ r : Bool, (r = true ↔ a = b) ∧ ∀ w : World, (Op.equalIn 10000 t a b).run Tryz.prog w = .ok r w := by
  obtain ⟨la, ha⟩ := ha
  obtain ⟨lb, hb⟩ := hb
  haveI := Classical.propDecidable (la = lb)
  refine ⟨decide (la = lb), ?_, fun w => ?_⟩
  · rw [decide_eq_true_eq]
    constructor
    · intro e; subst e; exact h.inj ha hb
    · intro e; subst e; rw [ha] at hb; exact Option.some.inj hb
  · obtain ⟨r, hr, hi⟩ := run_equal_deep w (by have := h.small; omega) h.at' (by rcases isWide_cases h.wide with ⟨_, _, hu⟩ | ⟨_, hu⟩ <;> simp [hu]) ha hb
    have : r = decide (la = lb) := by rw [Bool.eq_iff_iff, decide_eq_true_eq]; exact hi
    rw [← this]
    exact hr
/-- '==', '!=' of two values of a wide type, as rules for the walk -/
theorem KeyT.eql {t : TypeId} {m : Nat} (h : KeyT t m) {xs ys : Array Value} (ha : KV t (.agg xs)) (hb : KV t (.agg ys)) {p : Prop} [Decidable p] (hp : Value.agg xs = .agg ys ↔ p) :
    ∀ w : World, (binOp .eql t (.agg xs) (.agg ys)).run Tryz.prog w = .ok (.bool (decide p)) w := by
  intro w
  obtain ⟨r, hi, hr⟩ := h.eq ha hb
  rw [run_eql_struct, hr w]
  have : r = decide p := by rw [Bool.eq_iff_iff, decide_eq_true_eq, ← hp]; exact hi
  rw [this]
  rfl
theorem KeyT.neq {t : TypeId} {m : Nat} (h : KeyT t m) {xs ys : Array Value} (ha : KV t (.agg xs)) (hb : KV t (.agg ys)) {p : Prop} [Decidable p] (hp : Value.agg xs = .agg ys ↔ p) :
    ∀ w : World, (binOp .neq t (.agg xs) (.agg ys)).run Tryz.prog w = .ok (.bool (!decide p)) w := by
  intro w
  obtain ⟨r, hi, hr⟩ := h.eq ha hb
  rw [run_neq_struct, hr w]
  have : r = decide p := by rw [Bool.eq_iff_iff, decide_eq_true_eq, ← hp]; exact hi
  rw [this]
  rfl
theorem KeyT.guarded {t : TypeId} {m : Nat} (h : KeyT t m) (xs ys : Array Value) : ∀ (op : BinOp) (x y : Operand) (w : World), (eqGuard op t x y (.agg xs) (.agg ys)).run Tryz.prog w = .ok () w :=
  fun op x y w => run_eqGuard_agg w op t x y _ _ h.guard
theorem keyHash : KeyT 62 2 := ⟨by kernel_rfl, by kernel_rfl, by kernel_rfl, by decide, by kernel_rfl⟩
theorem kv_hash {xs : List Nat} (hl : xs.length = 32) (hb : ∀ d ∈ xs, d < 256) : KV 62 (hv xs) :=
  KV.mk keyHash.wide (by kernel_rfl) (by rw [nums_length, hl]; kernel_rfl) (fun d => KL.bytes (d := d + 6) Tryz.underlying62 (by kernel_rfl) hl hb)
end Go.Proofs.YtnophelfpoldfaaGreatDoor
