/- The walk of the statement TokenRuns: its head. -/
import Derived.Test.YtbdganopnccicaaDoorTokV
namespace Go.Proofs.YtbdganopnccicaaDoor
open Go.RowKit

/-- a step, and its cells -/
structure OpX where
  ask : Bool
  A : List Nat
  B : List Nat
  T : List Nat
  last : Bool
def OpX.ok (o : OpX) : Prop := EH.ok o.A ∧ EH.ok o.B ∧ EH.ok o.T
def OpX.cells (o : OpX) : List Value := [Value.bool o.ask] ++ nums .u8 o.A ++ nums .u8 o.B ++ nums .u8 o.T ++ [Value.bool o.last]
theorem OpX.len {o : OpX} (h : o.ok) : o.cells.length = 98 := by simp [OpX.cells, h.1.1, h.2.1.1, h.2.2.1]
theorem OpX.one (o : OpX) : ∀ v ∈ o.cells, v.oneCell' = true := by
  intro v hv
  simp only [OpX.cells, List.mem_append, List.mem_singleton] at hv
  rcases hv with (((rfl | h) | h) | h) | rfl
  · rfl
  · exact nums_oneCell _ _ v h
  · exact nums_oneCell _ _ v h
  · exact nums_oneCell _ _ v h
  · rfl
theorem OpX.at' {o : OpX} (h : o.ok) : o.cells[0]? = some (.bool o.ask) ∧ o.cells[97]? = some (.bool o.last) ∧ (o.cells.drop 1).take 32 = nums .u8 o.A ∧ (o.cells.drop 33).take 32 = nums .u8 o.B ∧ (o.cells.drop 65).take 32 = nums .u8 o.T := by
  have l1 : (nums .u8 o.A).length = 32 := by rw [nums_length, h.1.1]
  have l2 : (nums .u8 o.B).length = 32 := by rw [nums_length, h.2.1.1]
  have l3 : (nums .u8 o.T).length = 32 := by rw [nums_length, h.2.2.1]
  unfold OpX.cells
  generalize nums .u8 o.A = TA at *
  generalize nums .u8 o.B = TB at *
  generalize nums .u8 o.T = TT at *
  refine ⟨rfl, ?_, ?_, ?_, ?_⟩
  · rw [List.getElem?_append_right (by simp [l1, l2, l3])]
    simp [l1, l2, l3]
  · rw [List.append_assoc, List.append_assoc, List.append_assoc, List.drop_left' (by simp)]
    exact List.take_left' l1
  · rw [List.append_assoc, List.append_assoc, List.drop_left' (by simp [l1])]
    exact List.take_left' l2
  · rw [List.append_assoc, List.drop_left' (by simp [l1, l2])]
    exact List.take_left' l3
theorem blk_get {α : Type} {f : α → List Value} {m : Nat} : ∀ {L : List α} (_ : ∀ x ∈ L, (f x).length = m) {k : Nat} {x : α} (_ : L[k]? = some x) {j : Nat} {v : Value}, (f x)[j]? = some v → (L.flatMap f)[k * m + j]? = some v
  | [], _, k, _, hk, _, _, _ => by simp at hk
  | y :: r, h, 0, x, hk, j, v, hv => by
    simp only [List.getElem?_cons_zero, Option.some.injEq] at hk
    subst hk
    have hj : j < (f y).length := (List.getElem?_eq_some_iff.1 hv).1
    rw [Nat.zero_mul, Nat.zero_add, List.flatMap_cons, List.getElem?_append_left hj]; exact hv
  | y :: r, h, k + 1, x, hk, j, v, hv => by
    have hy := h y (by simp)
    rw [List.flatMap_cons, List.getElem?_append_right (by rw [hy, Nat.add_mul, Nat.one_mul]; omega), hy, show (k + 1) * m + j - m = k * m + j by rw [Nat.add_mul, Nat.one_mul]; omega]
    exact blk_get (fun z hz => h z (List.mem_cons_of_mem _ hz)) (by simpa using hk) hv
def Ops (w : World) (a : Option Addr) (n c : Nat) (L : List OpX) : Prop := Rd w 98 a n c (L.flatMap OpX.cells) ∧ L.length = n ∧ ∀ o ∈ L, o.ok
theorem Ops.below {w w' : World} {a : Option Addr} {n c : Nat} {L : List OpX} (h : Ops w a n c L) (hb : Below w.heap.size w w') : Ops w' a n c L := ⟨h.1.below hb, h.2⟩
theorem Ops.get {w : World} {a : Option Addr} {n c k : Nat} {L : List OpX} (h : Ops w a n c L) (hk : k < n) : ∃ b off o, a = some ⟨b, off, none⟩ ∧ L[k]? = some o ∧ w.rangeAt b (off + k * 98) o.cells ∧ o.ok := by
  obtain ⟨⟨_, _, _, _, b, off, ha, hc⟩, hl, hg⟩ := h
  have hkl : k < L.length := by omega
  refine ⟨b, off, L[k], ha (by omega), List.getElem?_eq_getElem hkl, fun j v hj => ?_, hg _ (List.getElem_mem _)⟩
  rw [Nat.add_assoc]
  exact hc _ _ (blk_get (fun o ho => OpX.len (hg o ho)) (List.getElem?_eq_getElem hkl) hj)
def zOp : OpX := ⟨false, List.replicate 32 0, List.replicate 32 0, List.replicate 32 0, false⟩
theorem zOp_ok : zOp.ok := ⟨⟨rfl, by decide⟩, ⟨rfl, by decide⟩, ⟨rfl, by decide⟩⟩
theorem zeroOp (w : World) : (zeroValue 36).run Tryd.prog w = .ok (.agg zOp.cells.toArray) w := by
  have h : (Tryd.prog.info? 36).map (·.zero) = some (some (.agg zOp.cells.toArray)) := by kernel_rfl
  cases hi : Tryd.prog.info? 36 with
  | none => rw [hi] at h; cases h
  | some i =>
    rw [hi] at h
    simp only [Option.map_some, Option.some.injEq] at h
    simp [zeroValue, typeInfo, hi, h]
theorem infoOp {o : OpX} (h : o.ok) : (Tryd.prog.info? 36).map (·.size) = some o.cells.length := by rw [OpX.len h]; kernel_rfl
theorem infoOpA {o : OpX} (h : o.ok) : (Tryd.prog.info? 36).map (·.size) = some o.cells.toArray.size := by rw [List.size_toArray]; exact infoOp h
theorem keyArr : KeyT 33 2 := ⟨by kernel_rfl, by kernel_rfl, by kernel_rfl, by decide, by kernel_rfl⟩
theorem kv_arr {xs : List Nat} (hl : xs.length = 32) (hb : ∀ d ∈ xs, d < 256) : KV 33 (.agg (nums .u8 xs).toArray) :=
  KV.mk keyArr.wide (by kernel_rfl) (by rw [nums_length, hl]; kernel_rfl) (fun d => KL.bytes (d := d + 6) Tryd.underlying33 (by kernel_rfl) hl hb)
/-- keys that are arrays of 32 bytes -/
def E32 : KeyE 33 (List Nat) where
  enc := hv
  ok := fun xs => xs.length = 32 ∧ ∀ d ∈ xs, d < 256
  kv := fun _ h => kv_arr h.1 h.2
  inj := fun x y _ _ e => by
    unfold hv at e
    have h := congrArg Array.toList (Value.agg.inj e)
    exact nums_inj h
  law := keyArr.law
  kinj := keyArr.inj
theorem unG : Tryd.prog.underlying 32 = some (.map 33 41) := by kernel_rfl
theorem zeroG (w : World) : (zeroValue 41).run Tryd.prog w = .ok (.agg zE) w := by
  have h : (Tryd.prog.info? 41).map (·.zero) = some (some (.agg zE)) := by kernel_rfl
  cases hi : Tryd.prog.info? 41 with
  | none => rw [hi] at h; cases h
  | some i =>
    rw [hi] at h
    simp only [Option.map_some, Option.some.injEq] at h
    simp [zeroValue, typeInfo, hi, h]
def tabC : Array Value := (nums .u32 (H0 ++ K0)).toArray
theorem tabV_eq : tabV = .agg tabC := rfl
theorem tabC_info : (Tryd.prog.info? 30).map (·.size) = some tabC.size := by rw [tabC, List.size_toArray, nums_length]; exact infoTab
theorem tabC_one : tabC.all (·.oneCell') = true := all_oneCell_toArray (nums_oneCell .u32 _)
theorem tabC_size : Tryd.zeroCells30.size = tabC.size := by rw [zeroTab_size]; rw [tabC, List.size_toArray, nums_length]; rfl
theorem setMs_mid (L1 L2 L2' L3 : List Value) (h : L2'.length = L2.length) : setMs (L1 ++ L2 ++ L3).toArray L1.length L2' = (L1 ++ L2' ++ L3).toArray := by
  apply Array.ext_getElem?
  intro j
  rw [setMs_get _ _ _ _ (by simp; omega), List.getElem?_toArray, List.getElem?_toArray]
  by_cases h1 : j < L1.length
  · rw [if_neg (by omega), List.append_assoc, List.getElem?_append_left h1, List.append_assoc, List.getElem?_append_left h1]
  · by_cases h2 : j < L1.length + L2'.length
    · rw [if_pos ⟨by omega, by omega⟩, List.append_assoc, List.getElem?_append_right (by omega), List.getElem?_append_left (by omega)]
    · rw [if_neg (by omega), List.getElem?_append_right (by simp; omega), List.getElem?_append_right (by simp; omega)]
      simp [h]
/-- a step in a variable, one of its digests written anew -/
theorem OpX.setA {o : OpX} (h : o.ok) {A' : List Nat} (hA : EH.ok A') : setMs o.cells.toArray 1 (nums .u8 A') = (OpX.cells { o with A := A' }).toArray := by
  have := setMs_mid [Value.bool o.ask] (nums .u8 o.A) (nums .u8 A') (nums .u8 o.B ++ nums .u8 o.T ++ [Value.bool o.last]) (by rw [nums_length, nums_length, h.1.1, hA.1])
  simpa [OpX.cells] using this
theorem OpX.setT {o : OpX} (h : o.ok) {T' : List Nat} (hT : EH.ok T') : setMs o.cells.toArray 65 (nums .u8 T') = (OpX.cells { o with T := T' }).toArray := by
  have := setMs_mid ([Value.bool o.ask] ++ nums .u8 o.A ++ nums .u8 o.B) (nums .u8 o.T) (nums .u8 T') [Value.bool o.last] (by rw [nums_length, nums_length, h.2.2.1, hT.1])
  have l0 : ([Value.bool o.ask] ++ nums .u8 o.A ++ nums .u8 o.B).length = 65 := by simp [h.1.1, h.2.1.1]
  rw [l0] at this
  exact this
theorem OpX.okA {o : OpX} (h : o.ok) {A' : List Nat} (hA : EH.ok A') : OpX.ok { o with A := A' } := ⟨hA, h.2⟩
theorem OpX.okT {o : OpX} (h : o.ok) {T' : List Nat} (hT : EH.ok T') : OpX.ok { o with T := T' } := ⟨h.1, h.2.1, hT⟩
end Go.Proofs.YtbdganopnccicaaDoor
