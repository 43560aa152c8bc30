/- Slices of bytes: their type's rows, strings made of them. -/
import Derived.Test.YtdopbhahcpjjgaaDoorMem
import Derived.Laws.BytesArg
import Derived.Stop.BytesEq
import Derived.Laws.Tables
import Derived.Maps.OwnSet
namespace Go.Proofs.YtdopbhahcpjjgaaDoor
open Go.RowKit

theorem infoU8 : (Tryd.prog.info? 5).map (fun i => (i.zero, i.size, i.bytes)) = some (some (.int .u8 0), 1, 1) := by kernel_rfl
theorem tyBs : SliceTy Tryd.prog 73 5 1 1 (.int .u8 0) := .mk' Tryd.underlying73 infoU8 rfl (by decide)

def bytesOf (xs : List Nat) : ByteArray := strOfNums (xs.map (fun (d : Nat) => (d : Int)))
theorem conv_bytes {P : Program} {w : World} {a : Option Addr} {n cap : Nat} {xs : List Nat} (h : Sl .u8 w a n cap xs) {src e dst : TypeId} (hs : P.underlying src = some (.slice e)) (he : P.underlying e = some (.int .u8)) (hd : P.underlying dst = some .string) :
    (convert src dst (.slice a n cap)).run P w = .ok (.string (bytesOf xs)) w := by
  have hl := h.len
  have h2 := h.2.1
  have h4 := h.2.2.2.1
  obtain ⟨b, off, ha, hc⟩ := h.opened
  cases a with
  | none =>
    have := h4 rfl
    obtain rfl : n = 0 := by omega
    have hx : xs = [] := List.eq_nil_of_length_eq_zero hl
    subst hx
    exact run_convert_bytes_nil w src e hs he 0 cap dst hd
  | some x =>
    rcases Nat.eq_zero_or_pos n with h0 | h0
    · subst h0
      have hx : xs = [] := List.eq_nil_of_length_eq_zero hl
      subst hx
      have hld := run_loadCells_list (P := P) w x [] (fun j v hj => by simp at hj)
      rw [run_convert_bytes_string w src dst e _ 0 cap hs he hd, run_bytesToString w x 0 cap [] hld]
      rfl
    · have := ha h0
      simp only [Option.some.injEq] at this
      subst this
      refine run_convert_bytes_arg w src e hs he b off n cap _ (by simpa using hl) (fun i hi => ?_) dst hd
      rw [hc i hi]
      simp [List.getElem?_eq_getElem (show i < xs.length by omega)]
theorem bytesOf_toList (xs : List Nat) : (bytesOf xs).toList = xs.map (fun d => UInt8.ofNat d) := by
  rw [ByteArray.toList_eq]
  simp [bytesOf, strOfNums, List.map_map]
theorem map_u8_inj {xs ys : List Nat} (hx : ∀ d ∈ xs, d < 256) (hy : ∀ d ∈ ys, d < 256) (h : xs.map (fun d => UInt8.ofNat d) = ys.map (fun d => UInt8.ofNat d)) : xs = ys := by
  induction xs generalizing ys with
  | nil => cases ys with
    | nil => rfl
    | cons y r => simp at h
  | cons x r ih => cases ys with
    | nil => simp at h
    | cons y t =>
      simp only [List.map_cons, List.cons.injEq] at h
      have h1 := hx x (by simp)
      have h2 := hy y (by simp)
      have h3 : x = y := by
        have := congrArg UInt8.toNat h.1
        simp at this
        omega
      rw [h3, ih (fun d hd => hx d (by simp [hd])) (fun d hd => hy d (by simp [hd])) h.2]
theorem bytesOf_eq {xs ys : List Nat} (hx : ∀ d ∈ xs, d < 256) (hy : ∀ d ∈ ys, d < 256) : ((bytesOf xs).toList == (bytesOf ys).toList) = decide (xs = ys) := by
  rw [bytesOf_toList, bytesOf_toList, Bool.eq_iff_iff, beq_iff_eq, decide_eq_true_eq]
  exact ⟨map_u8_inj hx hy, fun h => by rw [h]⟩

end Go.Proofs.YtdopbhahcpjjgaaDoor

/- Arrays of bytes as values; whether two are the same. -/
namespace Go.Proofs.YtdopbhahcpjjgaaDoor
open Go.RowKit
open Extern.Stop (cell)

/-- an array of bytes -/
def hv (xs : List Nat) : Value := .agg (nums .u8 xs).toArray
theorem nums_cell {xs : List Nat} (h : ∀ d ∈ xs, d < 256) : nums .u8 xs = (xs.map (fun d => UInt8.ofNat d)).map cell := by
  rw [nums, List.map_map]
  apply List.map_congr_left
  intro d hd
  have := h d hd
  simp only [Function.comp_apply, cell]
  congr 1
  simp
  omega
theorem szU8' (w : World) : (sizeOf 5).run Tryd.prog w = .ok 1 w := by
  have h := infoU8
  cases hi : Tryd.prog.info? 5 with
  | none => rw [hi] at h; cases h
  | some i =>
    rw [hi] at h
    simp only [Option.map_some, Option.some.injEq, Prod.mk.injEq] at h
    simp [sizeOf, typeInfo, hi, h.2.1]
theorem u8s_eq {xs ys : List Nat} (hx : ∀ d ∈ xs, d < 256) (hy : ∀ d ∈ ys, d < 256) : ((xs.map (fun d => UInt8.ofNat d)) == (ys.map (fun d => UInt8.ofNat d))) = decide (xs = ys) := by
  rw [Bool.eq_iff_iff, beq_iff_eq, decide_eq_true_eq]
  exact ⟨map_u8_inj hx hy, fun h => by rw [h]⟩
theorem run_eqIn_hv {t : TypeId} {n : Nat} (ht : Tryd.prog.underlying t = some (.array n 5)) (w : World) (d : Nat) {xs ys : List Nat} (lx : xs.length = n) (ly : ys.length = n) (hx : ∀ d ∈ xs, d < 256) (hy : ∀ d ∈ ys, d < 256) :
    (Op.equalIn (d + 2) t (hv xs) (hv ys)).run Tryd.prog w = .ok (decide (xs = ys)) w := by
  unfold hv
  rw [nums_cell hx, nums_cell hy, run_equalIn_bytes w d t 5 n ht Tryd.underlying5 szU8' _ _ (by simpa using lx) (by simpa using ly), u8s_eq hx hy]
theorem run_eql_hv {t : TypeId} {n : Nat} (ht : Tryd.prog.underlying t = some (.array n 5)) (w : World) {xs ys : List Nat} (lx : xs.length = n) (ly : ys.length = n) (hx : ∀ d ∈ xs, d < 256) (hy : ∀ d ∈ ys, d < 256) :
    (binOp .eql t (hv xs) (hv ys)).run Tryd.prog w = .ok (.bool (decide (xs = ys))) w := by
  unfold hv
  rw [run_eql_struct]
  have := run_eqIn_hv ht w 9998 lx ly hx hy
  unfold hv at this
  rw [this]
  rfl
theorem run_neq_hv {t : TypeId} {n : Nat} (ht : Tryd.prog.underlying t = some (.array n 5)) (w : World) {xs ys : List Nat} (lx : xs.length = n) (ly : ys.length = n) (hx : ∀ d ∈ xs, d < 256) (hy : ∀ d ∈ ys, d < 256) :
    (binOp .neq t (hv xs) (hv ys)).run Tryd.prog w = .ok (.bool (!decide (xs = ys))) w := by
  unfold hv
  rw [run_neq_struct]
  have := run_eqIn_hv ht w 9998 lx ly hx hy
  unfold hv at this
  rw [this]
  rfl
theorem guardH : Tryd.prog.eqGuardType Tryd.prog.depth 27 = false := by kernel_rfl
theorem infoH : (Tryd.prog.info? 27).map (·.size) = some 32 := by kernel_rfl
/-- '==' on digests: the two rules for the walk -/
theorem guard_hv (xs ys : List Nat) : ∀ (op : BinOp) (x y : Operand) (w : World), (eqGuard op 27 x y (hv xs) (hv ys)).run Tryd.prog w = .ok () w := by
  intro op x y w
  exact run_eqGuard_agg w op 27 x y _ _ guardH
theorem eql_hv {xs ys : List Nat} (lx : xs.length = 32) (ly : ys.length = 32) (hx : ∀ d ∈ xs, d < 256) (hy : ∀ d ∈ ys, d < 256) : ∀ w : World, (binOp .eql 27 (hv xs) (hv ys)).run Tryd.prog w = .ok (.bool (decide (xs = ys))) w :=
  fun w => run_eql_hv Tryd.underlying27 w lx ly hx hy
theorem neq_hv {xs ys : List Nat} (lx : xs.length = 32) (ly : ys.length = 32) (hx : ∀ d ∈ xs, d < 256) (hy : ∀ d ∈ ys, d < 256) : ∀ w : World, (binOp .neq 27 (hv xs) (hv ys)).run Tryd.prog w = .ok (.bool (!decide (xs = ys))) w :=
  fun w => run_neq_hv Tryd.underlying27 w lx ly hx hy
/-- a digest stored into a variable of its own -/
theorem wpList_storeH {w : World} {ops : Array Oper} {rest : List Oper} {o : Oper} {a : Act} {Q : Exit → Act → World → Prop} (hgd : o.guard = none) (x y : Operand) (ho : o.op = .store 27 x y)
    (g : Nat) (hx : a.eval x = .pointer (some ⟨g, 0, none⟩)) {zs : List Nat} (hy : a.eval y = hv zs) (hl : zs.length = 32) {old : Array Value} {t : TypeId} (hg : w.heap[g]? = some (.cells old t (0, 0))) (hold : old.size = 32)
    (h : ∀ w', w'.heap[g]? = some (.cells (nums .u8 zs).toArray t (0, 0)) → Far g w w' → wpList Tryd.prog ops Q rest (a.put o.dst undef) w') : wpList Tryd.prog ops Q (o :: rest) a w := by
  have hsz : (nums .u8 zs).toArray.size = 32 := by rw [List.size_toArray, nums_length, hl]
  refine wpList_store_row hgd _ x y ho g (nums .u8 zs).toArray hx hy t old hg (by rw [hsz]; exact infoH) (by rw [hsz]; exact hold) (by simp [nums, Value.oneCell']) ?_
  exact h _ (setRow_heap w g _ _ t _ hg) ⟨rfl, rfl, rfl, by simp [World.setRow], fun k _ hk => setRow_other w g k _ (by simpa using hk)⟩
end Go.Proofs.YtdopbhahcpjjgaaDoor

/- Values that can be compared and be keys of maps, whatever their shape: numbers, bools, arrays, structs. -/
namespace Go.Proofs.YtdopbhahcpjjgaaDoor
open Go.RowKit

def KL (d : Nat) (t : TypeId) (cs : List Value) : Prop := ∃ ls, Tryd.prog.keyLits d t cs = some ls
theorem KL.int {d : Nat} {t : TypeId} {k : IntKind} {n : Int} (ht : Tryd.prog.underlying t = some (.int k)) (hw : (Lit.int k n).wf = true) : KL (d + 1) t [.int k n] := by
  refine ⟨[.int k n], ?_⟩
  simp [Program.keyLits, ht, hw]
theorem KL.bool {d : Nat} {t : TypeId} {b : Bool} (ht : Tryd.prog.underlying t = some .bool) : KL (d + 1) t [.bool b] := by
  refine ⟨[.bool b], ?_⟩
  simp [Program.keyLits, ht]
theorem mapM_some' {α β : Type} {f : α → Option β} : ∀ {l : List α}, (∀ x ∈ l, ∃ y, f x = some y) → ∃ ys, l.mapM f = some ys
  | [], _ => ⟨[], rfl⟩
  | x :: r, h => by
    obtain ⟨y, hy⟩ := h x (by simp)
    obtain ⟨ys, hys⟩ := mapM_some' (l := r) (fun z hz => h z (by simp [hz]))
    exact ⟨y :: ys, by simp [List.mapM_cons, hy, hys]⟩
theorem KL.array {d : Nat} {t e : TypeId} {n : Nat} {cs : List Value} (ht : Tryd.prog.underlying t = some (.array n e)) (hl : cs.length = Tryd.prog.cellsOf t)
    (h : ∀ i, i < n → KL d e ((cs.drop (i * Tryd.prog.cellsOf e)).take (Tryd.prog.cellsOf e))) : KL (d + 1) t cs := by
  obtain ⟨ys, hy⟩ := mapM_some' (f := fun i => Tryd.prog.keyLits d e ((cs.drop (i * Tryd.prog.cellsOf e)).take (Tryd.prog.cellsOf e))) (l := List.range n) (fun i hi => h i (by simpa using hi))
  refine ⟨ys.flatten, ?_⟩
  simp only [Program.keyLits, ht, hl, if_true, hy, Option.map_some]
theorem KL.struct {d : Nat} {t : TypeId} {fs : Array Field} {cs : List Value} (ht : Tryd.prog.underlying t = some (.struct fs)) (hl : cs.length = Tryd.prog.cellsOf t) (hn : fs.all (·.name != "_") = true)
    (h : ∀ f ∈ fs.toList, KL d f.type ((cs.drop f.offset).take (Tryd.prog.cellsOf f.type))) : KL (d + 1) t cs := by
  obtain ⟨ys, hy⟩ := mapM_some' (f := fun f : Field => Tryd.prog.keyLits d f.type ((cs.drop f.offset).take (Tryd.prog.cellsOf f.type))) (l := fs.toList) h
  refine ⟨ys.flatten, ?_⟩
  simp only [Program.keyLits, ht, hl, hn, and_self, if_true, hy, Option.map_some]
theorem cellsU8 : Tryd.prog.cellsOf 5 = 1 := by kernel_rfl
theorem u8_wf {n : Nat} (h : n < 256) : (Lit.int .u8 (n : Int)).wf = true := by
  simp [Lit.wf, IntKind.min, IntKind.max, IntKind.signed, IntKind.bits]; omega
theorem u64_wf {n : Nat} (h : n < 18446744073709551616) : (Lit.int .u64 (n : Int)).wf = true := by
  simp [Lit.wf, IntKind.min, IntKind.max, IntKind.signed, IntKind.bits]; omega
theorem i64_wf {z : Int} (h1 : -9223372036854775808 ≤ z) (h2 : z ≤ 9223372036854775807) : (Lit.int .i64 z).wf = true := by
  simp [Lit.wf, IntKind.min, IntKind.max, IntKind.signed, IntKind.bits]; omega
theorem KL.bytes {d n : Nat} {t : TypeId} (ht : Tryd.prog.underlying t = some (.array n 5)) (hc : Tryd.prog.cellsOf t = n) {xs : List Nat} (hl : xs.length = n) (hb : ∀ d ∈ xs, d < 256) : KL (d + 2) t (nums .u8 xs) := by
  refine KL.array ht (by rw [nums_length, hl, hc]) fun i hi => ?_
  have h1 : (List.drop (i * Tryd.prog.cellsOf 5) (nums .u8 xs)).take (Tryd.prog.cellsOf 5) = [.int .u8 ((xs.getD i 0 : Nat) : Int)] := by
    rw [cellsU8, Nat.mul_one]
    have hi' : i < (nums .u8 xs).length := by rw [nums_length]; omega
    rw [List.drop_eq_getElem_cons hi', List.take_succ_cons, List.take_zero]
    have := nums_get .u8 (show i < xs.length by omega)
    rw [List.getElem?_eq_getElem hi'] at this
    rw [Option.some.inj this]
  rw [h1]
  refine KL.int Tryd.underlying5 (u8_wf ?_)
  rw [List.getD_eq_getElem?_getD, List.getElem?_eq_getElem (by omega)]
  exact hb _ (List.getElem_mem _)
/-- a value that can be compared -/
def KV (t : TypeId) (v : Value) : Prop := ∃ l, keyOf Tryd.prog t v = some l
theorem tsz : ∃ m, Tryd.prog.types.size = m + 8 := ⟨Tryd.prog.types.size - 8, by have : 8 ≤ Tryd.prog.types.size := of_decide_eq_true (by kernel_rfl); omega⟩
/-- an array or a struct -/
noncomputable def isWide (t : TypeId) : Bool := match Tryd.prog.underlying t with | some (.array _ _) | some (.struct _) => true | _ => false
theorem KV.mk {t : TypeId} {cs : List Value} (hw : isWide t = true) (hk : Tryd.prog.keyType t = true) (hl : cs.length = Tryd.prog.cellsOf t) (h : ∀ d, KL (d + 8) t cs) : KV t (.agg cs.toArray) := by
  obtain ⟨m, hm⟩ := tsz
  obtain ⟨ls, hls⟩ := h (m + 1)
  have e1 : Tryd.prog.types.size + 1 = m + 1 + 8 := by omega
  have hf : (Value.agg cs.toArray).formed Tryd.prog t = true := by
    unfold isWide at hw
    unfold Value.formed
    split at hw <;> simp_all
  refine ⟨.string (keyBytes ls), ?_⟩
  unfold isWide at hw
  unfold keyOf
  split at hw
  · rename_i hu
    simp only [hu, hk, hf, Bool.and_self, if_true]
    rw [e1, show (Value.agg cs.toArray).cells.toList = cs from rfl, hls]
    rfl
  · rename_i hu
    simp only [hu, hk, hf, Bool.and_self, if_true]
    rw [e1, show (Value.agg cs.toArray).cells.toList = cs from rfl, hls]
    rfl
  · cases hw
theorem isWide_cases {t : TypeId} (h : isWide t = true) : (∃ n e, Tryd.prog.underlying t = some (.array n e)) ∨ ∃ fs, Tryd.prog.underlying t = some (.struct fs) := by
  unfold isWide at h
  split at h
  · rename_i n e hu; exact .inl ⟨n, e, hu⟩
  · rename_i fs hu; exact .inr ⟨fs, hu⟩
  · cases h
/-- what is asked of a type, closed -/
structure KeyT (t : TypeId) (m : Nat) : Prop where
  wide : isWide t = true
  at' : Tryd.prog.keyTypeAt m t = true
  tiled : Tryd.prog.tiled m t = true
  small : m + 1 ≤ 10000
  guard : Tryd.prog.eqGuardType Tryd.prog.depth t = false
theorem KeyT.law {t : TypeId} {m : Nat} (h : KeyT t m) : Go.Maps.Keyed Tryd.prog t := Go.Maps.Keyed.of_law (deep_law h.small h.at' h.tiled (by rcases isWide_cases h.wide with ⟨_, _, hu⟩ | ⟨_, hu⟩ <;> simp [hu]))
theorem KeyT.inj {t : TypeId} {m : Nat} (h : KeyT t m) {a b : Value} {l : Lit} (ha : keyOf Tryd.prog t a = some l) (hb : keyOf Tryd.prog t b = some l) : a = b := keyOf_inj_deep h.tiled (by rcases isWide_cases h.wide with ⟨_, _, hu⟩ | ⟨_, hu⟩ <;> simp [hu]) ha hb
theorem KeyT.eq {t : TypeId} {m : Nat} (h : KeyT t m) {a b : Value} (ha : KV t a) (hb : KV t b) : ∃ r : Bool, (r = true ↔ a = b) ∧ ∀ w : World, (Op.equalIn 10000 t a b).run Tryd.prog w = .ok r w := by
  obtain ⟨la, ha⟩ := ha
  obtain ⟨lb, hb⟩ := hb
  haveI := Classical.propDecidable (la = lb)
  refine ⟨decide (la = lb), ?_, fun w => ?_⟩
  · rw [decide_eq_true_eq]
    constructor
    · intro e; subst e; exact h.inj ha hb
    · intro e; subst e; rw [ha] at hb; exact Option.some.inj hb
  · obtain ⟨r, hr, hi⟩ := run_equal_deep w (by have := h.small; omega) h.at' (by rcases isWide_cases h.wide with ⟨_, _, hu⟩ | ⟨_, hu⟩ <;> simp [hu]) ha hb
    have : r = decide (la = lb) := by rw [Bool.eq_iff_iff, decide_eq_true_eq]; exact hi
    rw [← this]
    exact hr
/-- '==', '!=' of two values of a wide type, as rules for the walk -/
theorem KeyT.eql {t : TypeId} {m : Nat} (h : KeyT t m) {xs ys : Array Value} (ha : KV t (.agg xs)) (hb : KV t (.agg ys)) {p : Prop} [Decidable p] (hp : Value.agg xs = .agg ys ↔ p) :
    ∀ w : World, (binOp .eql t (.agg xs) (.agg ys)).run Tryd.prog w = .ok (.bool (decide p)) w := by
  intro w
  obtain ⟨r, hi, hr⟩ := h.eq ha hb
  rw [run_eql_struct, hr w]
  have : r = decide p := by rw [Bool.eq_iff_iff, decide_eq_true_eq, ← hp]; exact hi
  rw [this]
  rfl
theorem KeyT.neq {t : TypeId} {m : Nat} (h : KeyT t m) {xs ys : Array Value} (ha : KV t (.agg xs)) (hb : KV t (.agg ys)) {p : Prop} [Decidable p] (hp : Value.agg xs = .agg ys ↔ p) :
    ∀ w : World, (binOp .neq t (.agg xs) (.agg ys)).run Tryd.prog w = .ok (.bool (!decide p)) w := by
  intro w
  obtain ⟨r, hi, hr⟩ := h.eq ha hb
  rw [run_neq_struct, hr w]
  have : r = decide p := by rw [Bool.eq_iff_iff, decide_eq_true_eq, ← hp]; exact hi
  rw [this]
  rfl
theorem KeyT.guarded {t : TypeId} {m : Nat} (h : KeyT t m) (xs ys : Array Value) : ∀ (op : BinOp) (x y : Operand) (w : World), (eqGuard op t x y (.agg xs) (.agg ys)).run Tryd.prog w = .ok () w :=
  fun op x y w => run_eqGuard_agg w op t x y _ _ h.guard
theorem keyHash : KeyT 27 2 := ⟨by kernel_rfl, by kernel_rfl, by kernel_rfl, by decide, by kernel_rfl⟩
theorem kv_hash {xs : List Nat} (hl : xs.length = 32) (hb : ∀ d ∈ xs, d < 256) : KV 27 (hv xs) :=
  KV.mk keyHash.wide (by kernel_rfl) (by rw [nums_length, hl]; kernel_rfl) (fun d => KL.bytes (d := d + 6) Tryd.underlying27 (by kernel_rfl) hl hb)
theorem keyPoint : KeyT 31 3 := ⟨by kernel_rfl, by kernel_rfl, by kernel_rfl, by decide, by kernel_rfl⟩
end Go.Proofs.YtdopbhahcpjjgaaDoor
