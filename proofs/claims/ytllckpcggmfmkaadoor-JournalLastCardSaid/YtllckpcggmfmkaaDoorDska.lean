/- Bytes as blocks of bytes; slices.Clone, slices.Equal at bytes; eight. -/
import Derived.Test.YtllckpcggmfmkaaDoorKeep
import Derived.Test.YtllckpcggmfmkaaDoorByt
import Derived.Test.YtllckpcggmfmkaaDoorCatS
namespace Go.Proofs.YtllckpcggmfmkaaDoor
open Go.RowKit

/-- a slice of bytes that lies in a row of bytes -/
def ByA (w : World) (v : Value) (bs : List Nat) : Prop :=
  ∃ a n c, v = .slice a n c ∧ Sl .u8 w a n c bs ∧ (∀ d ∈ bs, d < 256) ∧ (a = none → bs = []) ∧ ∀ g off sp, a = some ⟨g, off, sp⟩ → ∃ cur, w.heap[g]? = some (.cells cur 5 (0, 0))
/-- a block that is none of bytes -/
def NoBy (w : World) (i : Nat) : Prop := ∀ cur, w.heap[i]? ≠ some (.cells cur 5 (0, 0))
theorem ByA.keep {S : Nat → Prop} {w w' : World} {v : Value} {bs : List Nat} (h : ByA w v bs) (k : Keep S w w') (hn : ∀ i, i < w.heap.size → S i → NoBy w i) : ByA w' v bs := by
  obtain ⟨a, n, c, rfl, hs, hb, h0, hg⟩ := h
  have key : ∀ g off sp, a = some ⟨g, off, sp⟩ → g < w.heap.size ∧ ¬ S g := fun g off sp e => by
    obtain ⟨cur, hc⟩ := hg g off sp e
    have hl := (Array.getElem?_eq_some_iff.1 hc).1
    exact ⟨hl, fun hs => hn g hl hs cur hc⟩
  refine ⟨a, n, c, rfl, ?_, hb, h0, fun g off sp e => ?_⟩
  · obtain ⟨h1, h2, h3, h4, b, off, ha, hc⟩ := hs
    refine ⟨h1, h2, h3, h4, b, off, ha, fun j u hu => ?_⟩
    have hj : 0 < n := by
      have := (List.getElem?_eq_some_iff.1 hu).1
      rw [h1] at this; omega
    exact k.cell (hc j u hu) (key b off none (ha hj)).2
  · obtain ⟨cur, hc⟩ := hg g off sp e
    exact ⟨cur, k.heap hc (key g off sp e).2⟩
theorem ByA.below {w w' : World} {v : Value} {bs : List Nat} (h : ByA w v bs) (b : Below w.heap.size w w') : ByA w' v bs := h.keep (Keep.of (S := fun _ => False) b) (fun _ _ h => h.elim)
theorem ByA.nil (w : World) : ByA w (.slice none 0 0) [] := ⟨none, 0, 0, rfl, ⟨by simp, Nat.le_refl _, Nat.zero_le _, fun _ => rfl, 0, 0, fun h => absurd h (by decide), by simp⟩, by simp, fun _ => rfl, fun _ _ _ h => by cases h⟩
theorem ByA.lt {w : World} {a : Option Addr} {n c : Nat} {bs : List Nat} (h : ByA w (.slice a n c) bs) : bs.length = n := by
  obtain ⟨a', n', c', e, hs, _⟩ := h
  simp only [Value.slice.injEq] at e
  obtain ⟨rfl, rfl, rfl⟩ := e
  have := hs.1
  simpa using this
theorem ByA.own {w : World} {B : Nat} {v : Value} {n : Nat} {bs : List Nat} (h : w.ownsRow B 5 1 v n (nums .u8 bs)) (hb : ∀ d ∈ bs, d < 256) : ByA w v bs := by
  obtain ⟨a, c, rfl, hr⟩ := Rd.of_owns h
  refine ⟨a, n, c, rfl, hr, hb, ?_, ?_⟩
  · intro e
    have := hr.2.2.2.1 e
    have := hr.2.1
    have := hr.1
    have : bs.length = 0 := by rw [nums_length] at this; omega
    exact List.eq_nil_of_length_eq_zero this
  · intro g off sp e
    subst e
    rcases h.2 with ⟨hv, _⟩ | ⟨g', cap', cur, hv, _, hg, _⟩
    · simp at hv
    · simp only [Value.slice.injEq, Option.some.injEq, Addr.mk.injEq] at hv
      obtain ⟨⟨rfl, _⟩, _⟩ := hv
      exact ⟨cur, hg⟩
/-- what slices.Clone hands back: a row of its own -/
def Cl8 (w : World) (bs : List Nat) (e : Ending) (w' : World) : Prop := ∃ v, e = .returned v ∧ w'.ownsRow w.heap.size 5 1 v bs.length (nums .u8 bs) ∧ Below w.heap.size w w'
set_option maxRecDepth 100000 in
set_option maxHeartbeats 4000000 in
theorem clone8_walk (a : Option Addr) (n c : Nat) (bs : List Nat) (w : World) (h : Sl .u8 w a n c bs) (hn : n < 4294967296) : Calls Tryd.prog 30 #[.slice a n c] w (Cl8 w bs) := by
  have H := hid h
  have hl : bs.length = n := by have := h.1; simpa using this
  have hn0' : ∀ (a : Option Addr) (n c : Nat) (w : World), (binOp .eql 23 (.slice a n c) (.slice none 0 0)).run Tryd.prog w = .ok (.bool a.isNone) w := fun a n c w => Go.Lib.run_eql_slice_nil w _ _ a n c 0 0 Tryd.underlying23
  cases a with
  | none =>
    have hc : c = 0 := h.2.2.2.1 rfl
    have hn0 : n = 0 := by have := h.2.1; omega
    subst hc
    subst hn0
    have hb : bs = [] := List.eq_nil_of_length_eq_zero hl
    subst hb
    clear h
    go_enter Tryd.func30, Tryd.ntmps30
    go_wp2
    go_ret
    exact ⟨_, rfl, ⟨rfl, .inl ⟨rfl, rfl⟩⟩, Below.refl _ _⟩
  | some ad =>
    have MD := hid (World.ownsRow_made w #[] 0 (base := w.heap.size) (e := 5) (size := 1) (Nat.le_refl _) (by simp) (by simp))
    have mb0 := (Below.refl w.heap.size w).alloc (Nat.le_refl _) (.cells #[] 5)
    have RD := hid (show Rd _ 1 (some ad) n c (nums .u8 bs) from h.below mb0)
    have M0 := hid mb0
    have ONE := hid (nums_oneCell .u8 bs)
    have HN := hid hn
    clear mb0 h
    subst hl
    go_enter Tryd.func30, Tryd.ntmps30
    go_wp2_with (at_builtin; refine wpList_cat rfl _ _ 23 rfl tyBs w.heap.size MD.out rfl rfl RD.out ONE.out (by have := HN.out; omega) (by have := HN.out; unfold maxLen; omega) (by simp) ?_; intro v5 w5 own5 b5 hs5 _; have O5 := hid own5; have B5 := hid b5; clear own5 b5 hs5)
    go_ret
    have o := O5.out
    simp only [List.nil_append, Nat.zero_add] at o
    exact ⟨v5, rfl, o, M0.out.trans B5.out⟩
end Go.Proofs.YtllckpcggmfmkaaDoor

/- slices.Equal at bytes; the journal's eight and four. -/
namespace Go.Proofs.YtllckpcggmfmkaaDoor
open Go.RowKit

set_option maxRecDepth 100000 in
set_option maxHeartbeats 4000000 in
theorem equal8_walk (a b : Option Addr) (n m c d : Nat) (xs ys : List Nat) (w : World) (hx : Sl .u8 w a n c xs) (hy : Sl .u8 w b m d ys) (hn : n < 4294967296) :
    Calls Tryd.prog 46 #[.slice a n c, .slice b m d] w fun e w' => e = .returned (.bool (decide (xs = ys))) ∧ Below w.heap.size w w' := by
  have HX := hid hx
  have HY := hid hy
  have HN := hid hn
  have lx := hid (show xs.length = n by have := hx.1; simpa using this)
  have ly := hid (show ys.length = m by have := hy.1; simpa using this)
  clear hx hy hn
  go_enter Tryd.func46, Tryd.ntmps46
  by_cases hnm : n = m
  case neg =>
    have t1 : ((n : Int) != (m : Int)) = true := by simp; omega
    have t2 : (n != m) = true := by simp; omega
    have NM := hid hnm
    clear hnm
    go_wp2_with (fail)
    go_ret
    have e : decide (xs = ys) = false := decide_eq_false (fun e => NM.out (by rw [← lx.out, ← ly.out, e]))
    exact ⟨congrArg (fun b => Ending.returned (Value.bool b)) e.symm, Below.refl _ _⟩
  subst hnm
  have t1 : ((n : Int) != (n : Int)) = false := by simp
  have t2 : (n != n) = false := by simp
  go_upto_region 4 with (fail)
  clear t1 t2
  go_loopw [13] (fun x13 wr => ∃ i : Nat, i ≤ n ∧ x13 = .int .i64 (i : Int) ∧ xs.take i = ys.take i ∧ Below w.heap.size w wr) (fun x13 _ => n - (intOf x13).toNat)
  case atStart => exact ⟨0, by omega, rfl, by simp, Below.refl _ _⟩
  case round =>
    obtain ⟨i, hi, rfl, ht, hb⟩ := hrel
    have HT := hid ht
    have BB := hid hb
    clear ht hb
    by_cases hlt : i < n
    case neg =>
      have t1 : decide (i < n) = false := decide_eq_false hlt
      have e := HT.out
      rw [List.take_of_length_le (by rw [lx.out]; omega), List.take_of_length_le (by rw [ly.out]; omega)] at e
      have E := hid e
      clear e hlt hi
      go_wp2_with (fail)
      go_ret
      have e : decide (xs = ys) = true := decide_eq_true E.out
      exact ⟨congrArg (fun b => Ending.returned (Value.bool b)) e.symm, BB.out⟩
    have t1 : decide (i < n) = true := decide_eq_true hlt
    obtain ⟨p, po, hp, hpc⟩ := (HX.out.below BB.out).opened
    obtain ⟨q, qo, hq, hqc⟩ := (HY.out.below BB.out).opened
    have hp1 := hp (by omega)
    have hq1 := hq (by omega)
    subst hp1 hq1
    have hpi := hpc i hlt
    have hqi := hqc i hlt
    obtain ⟨x, hx⟩ : ∃ x, x = xs.getD i 0 := ⟨_, rfl⟩
    obtain ⟨y, hy⟩ : ∃ y, y = ys.getD i 0 := ⟨_, rfl⟩
    rw [← hx] at hpi
    rw [← hy] at hqi
    have X := hid hx
    have Y := hid hy
    have LT := hid hlt
    have i32 : i < 4294967296 := by have := HN.out; omega
    clear hp hq hpc hqc hx hy
    by_cases hxy : x = y
    · have t2 : ((x : Int) != (y : Int)) = false := by simp [hxy]
      have t3 : (x != y) = false := by simp [hxy]
      have XY := hid hxy
      clear hxy
      go_upto_region 6 with (fail)
      go_quiet (fail)
      go_wp2_with (fail)
      go_roundw
      case rel => exact ⟨i + 1, by have := LT.out; omega, by go_num, by
        rw [List.take_add_one, List.take_add_one, HT.out, List.getElem?_eq_getElem (by rw [lx.out]; exact LT.out), List.getElem?_eq_getElem (by rw [ly.out]; exact LT.out)]
        have e : xs[i]'(by rw [lx.out]; exact LT.out) = ys[i]'(by rw [ly.out]; exact LT.out) := by
          have h1 := X.out
          have h2 := Y.out
          rw [List.getD_eq_getElem?_getD, List.getElem?_eq_getElem (by rw [lx.out]; exact LT.out)] at h1
          rw [List.getD_eq_getElem?_getD, List.getElem?_eq_getElem (by rw [ly.out]; exact LT.out)] at h2
          simp only [Option.getD_some] at h1 h2
          rw [← h1, ← h2]; exact XY.out
        rw [e], by first | exact BB.out | exact below_drewN BB.out _⟩
      case measure => simp [intOf]; have := LT.out; omega
    · have t2 : ((x : Int) != (y : Int)) = true := by simp; omega
      have t3 : (x != y) = true := by simp; omega
      have XY := hid hxy
      clear hxy
      go_upto_region 6 with (fail)
      go_quiet (fail)
      go_wp2_with (fail)
      go_ret
      have e : decide (xs = ys) = false := decide_eq_false (fun e => XY.out (by rw [X.out, Y.out, e]))
      exact ⟨congrArg (fun b => Ending.returned (Value.bool b)) e.symm, by first | exact BB.out | exact below_drewN BB.out _⟩
end Go.Proofs.YtllckpcggmfmkaaDoor

/- The journal's eight and four. -/
namespace Go.Proofs.YtllckpcggmfmkaaDoor
open Go.RowKit

/-- a number's bytes -/
def be8 (u : Nat) : List Nat := (List.range 8).map fun j => u / 2 ^ (8 * (7 - j)) % 256
theorem be8_len (u : Nat) : (be8 u).length = 8 := by simp [be8]
theorem be8_lt (u : Nat) : ∀ d ∈ be8 u, d < 256 := by
  intro d hd
  obtain ⟨j, _, rfl⟩ := List.mem_map.1 hd
  exact Nat.mod_lt _ (by decide)
/-- a row of bytes of one's own -/
def Own8 (w : World) (bs : List Nat) (e : Ending) (w' : World) : Prop := ∃ v, e = .returned v ∧ w'.ownsRow w.heap.size 5 1 v bs.length (nums .u8 bs) ∧ Below w.heap.size w w'
set_option maxRecDepth 100000 in
set_option maxHeartbeats 4000000 in
theorem jeight_walk (u : Nat) (hu : u < 18446744073709551616) (w : World) : Calls Tryd.prog 27 #[.int .u64 (u : Int)] w (Own8 w (be8 u)) := by
  have HU := hid hu
  clear hu
  have LE := hid (be8_len u)
  go_enter Tryd.func27, Tryd.ntmps27
  go_upto_region 3 with (fail)
  go_loopw [3, 4] (fun x3 x4 wr => ∃ j : Nat, j ≤ 8 ∧ x4 = .int .i64 (7 - (j : Int)) ∧ wr.ownsRow w.heap.size 5 1 x3 j (nums .u8 ((be8 u).take j)) ∧ Below w.heap.size w wr) (fun _ x4 _ => (intOf x4 + 1).toNat)
  case atStart => exact ⟨0, by omega, rfl, ⟨rfl, .inl ⟨rfl, rfl⟩⟩, Below.refl _ _⟩
  case round =>
    obtain ⟨j, hj, rfl, ho, hb⟩ := hrel
    have OW := hid ho
    have BB := hid hb
    clear ho hb
    by_cases hlt : j < 8
    case neg =>
      obtain rfl : j = 8 := by omega
      go_wp2_with (fail)
      go_ret
      have o := OW.out
      rw [List.take_of_length_le (by rw [LE.out]; omega)] at o
      exact ⟨_, rfl, by rw [LE.out]; exact o, BB.out⟩
    have t1 : decide (7 - (j : Int) ≥ 0) = true := decide_eq_true (by omega)
    have t2 : decide (0 ≤ 7 - (j : Int)) = true := decide_eq_true (by omega)
    have LT := hid hlt
    obtain ⟨v4, hv4⟩ : ∃ v4, v4 = 7 - (j : Int) := ⟨_, rfl⟩
    clear t1 t2
    have t1 : decide (v4 ≥ 0) = true := decide_eq_true (by omega)
    have t2 : decide (0 ≤ v4) = true := decide_eq_true (by omega)
    rw [← hv4]
    obtain ⟨s, hs⟩ : ∃ s : Nat, s = 8 * (7 - j) := ⟨_, rfl⟩
    have r1 : IntKind.i64.wrap (8 * v4) = (s : Int) := by rw [IntKind.wrap_i64]; omega
    have SE := hid hs
    clear hs
    have V4 := hid hv4
    clear hv4 hlt hj
    have BW := hid BB.out.size
    have r2 : IntKind.i64.wrap (v4 - 1) = v4 - 1 := by have := V4.out; have := LT.out; rw [IntKind.wrap_i64]; omega
    go_wp2_with (at_builtin; refine wpList_pushK rfl _ _ 23 rfl tyBs w.heap.size OW.out rfl rfl rfl rfl (by have := LT.out; omega) (by decide) BW.out ?_; intro v5 w5 own5 k5 nb5; have O5 := hid own5; have K5 := hid k5; clear own5 k5 nb5)
    go_roundw
    case rel =>
      have hl : j < (be8 u).length := by rw [LE.out]; exact LT.out
      refine ⟨j + 1, by have := LT.out; omega, by have := V4.out; rw [this]; congr 1; omega, ?_, BB.out.trans (K5.out.below (fun i hi => (OW.out.lt i hi).1) BW.out)⟩
      have o := O5.out
      rw [List.take_add_one, List.getElem?_eq_getElem hl, ← nums_append]
      have e : (#[Value.int .u8 ((u : Int) / 2 ^ min s 64 % 256)] : Array Value).toList = nums .u8 (some (be8 u)[j]).toList := by
        have hs := SE.out
        have hm : min s 64 = s := by omega
        have hb : (be8 u)[j] = u / 2 ^ s % 256 := by simp [be8, hs]
        simp only [Option.toList_some, nums, List.map_cons, List.map_nil, hb, hm]
        congr 2
      rw [← e]
      exact o
    case measure => simp [intOf]; have := V4.out; have := LT.out; omega
end Go.Proofs.YtllckpcggmfmkaaDoor

/- The journal's four; what a disk is. -/
namespace Go.Proofs.YtllckpcggmfmkaaDoor
open Go.RowKit

theorem i64_or_nat (a b : Nat) (ha : a < 4611686018427387904) (hb : b < 4611686018427387904) : bits .or .i64 (a : Int) (b : Int) = ((a ||| b : Nat) : Int) := by
  have h1 : ∀ n : Nat, n < 4611686018427387904 → (BitVec.ofInt 64 (n : Int)).toNat = n := fun n hn => by rw [BitVec.toNat_ofInt]; omega
  have h2 : a ||| b < 2 ^ 62 := Nat.or_lt_two_pow (by omega) (by omega)
  show IntKind.i64.wrap ((BitVec.ofInt 64 (a : Int) ||| BitVec.ofInt 64 (b : Int)).toNat : Int) = _
  rw [BitVec.toNat_or, h1 a ha, h1 b hb]
  generalize a ||| b = c at *
  simp [IntKind.wrap, IntKind.bits, IntKind.signed]
  split <;> omega
theorem nat_join' (k a b : Nat) (hb : b < 2 ^ k) : a * 2 ^ k ||| b = a * 2 ^ k + b := by
  rw [Nat.mul_comm, Nat.two_pow_add_eq_or_of_lt hb]
theorem orBytes {a b c d : Nat} (ha : a < 256) (hb : b < 256) (hc : c < 256) (hd : d < 256) :
    bits .or .i64 (bits .or .i64 (bits .or .i64 ((a : Int) * 16777216) ((b : Int) * 65536)) ((c : Int) * 256)) (d : Int) = ((((a * 256 + b) * 256 + c) * 256 + d : Nat) : Int) := by
  rw [show (a : Int) * 16777216 = ((a * 16777216 : Nat) : Int) by omega, show (b : Int) * 65536 = ((b * 65536 : Nat) : Int) by omega, show (c : Int) * 256 = ((c * 256 : Nat) : Int) by omega]
  have e1 : a * 16777216 ||| b * 65536 = a * 16777216 + b * 65536 := nat_join' 24 a _ (by omega)
  have e2 : (a * 16777216 + b * 65536) ||| c * 256 = a * 16777216 + b * 65536 + c * 256 := by
    have := nat_join' 16 (a * 256 + b) (c * 256) (by omega)
    rw [show (a * 256 + b) * 2 ^ 16 = a * 16777216 + b * 65536 by omega] at this
    exact this
  have e3 : (a * 16777216 + b * 65536 + c * 256) ||| d = a * 16777216 + b * 65536 + c * 256 + d := by
    have := nat_join' 8 ((a * 256 + b) * 256 + c) d (by omega)
    rw [show ((a * 256 + b) * 256 + c) * 2 ^ 8 = a * 16777216 + b * 65536 + c * 256 by omega] at this
    exact this
  rw [i64_or_nat _ _ (by omega) (by omega), e1, i64_or_nat _ _ (by omega) (by omega), e2, i64_or_nat _ _ (by omega) (by omega), e3]
  omega
theorem getD_ltU {xs : List Nat} {M : Nat} (h : ∀ d ∈ xs, d < M) (hM : 0 < M) (k : Nat) : xs.getD k 0 < M := by
  rw [List.getD_eq_getElem?_getD]
  cases hk : xs[k]? with
  | none => exact hM
  | some y => exact h y (List.mem_of_getElem? hk)
def four4 (bs : List Nat) : Nat := (((bs.getD 0 0 * 256 + bs.getD 1 0) * 256 + bs.getD 2 0) * 256 + bs.getD 3 0)
set_option maxRecDepth 100000 in
set_option maxHeartbeats 4000000 in
theorem jfour_walk (a : Option Addr) (n c : Nat) (bs : List Nat) (w : World) (h : Sl .u8 w a n c bs) (hb : ∀ d ∈ bs, d < 256) (hn : 4 ≤ n) : Calls Tryd.prog 45 #[.slice a n c] w fun e w' => e = .returned (.int .i64 (four4 bs : Int)) ∧ Below w.heap.size w w' := by
  obtain ⟨p, po, hp, hc⟩ := h.opened
  have hp1 := hp (by omega)
  subst hp1
  have c0 := hc 0 (by omega)
  rw [Nat.add_zero] at c0
  have c1 := hc 1 (by omega)
  have c2 := hc 2 (by omega)
  have c3 := hc 3 (by omega)
  have b0 : bs.getD 0 0 < 256 := getD_ltU hb (by decide) 0
  have b1 : bs.getD 1 0 < 256 := getD_ltU hb (by decide) 1
  have b2 : bs.getD 2 0 < 256 := getD_ltU hb (by decide) 2
  have b3 : bs.getD 3 0 < 256 := getD_ltU hb (by decide) 3
  have r := orBytes b0 b1 b2 b3
  unfold four4
  generalize bs.getD 0 0 = x0 at *
  generalize bs.getD 1 0 = x1 at *
  generalize bs.getD 2 0 = x2 at *
  generalize bs.getD 3 0 = x3 at *
  have w0 : IntKind.i64.wrap ((x0 : Int) * 16777216) = (x0 : Int) * 16777216 := by rw [IntKind.wrap_i64]; omega
  have w1 : IntKind.i64.wrap ((x1 : Int) * 65536) = (x1 : Int) * 65536 := by rw [IntKind.wrap_i64]; omega
  have w2 : IntKind.i64.wrap ((x2 : Int) * 256) = (x2 : Int) * 256 := by rw [IntKind.wrap_i64]; omega
  have v0 : IntKind.i64.wrap (x0 : Int) = (x0 : Int) := by rw [IntKind.wrap_i64]; omega
  have v1 : IntKind.i64.wrap (x1 : Int) = (x1 : Int) := by rw [IntKind.wrap_i64]; omega
  have v2 : IntKind.i64.wrap (x2 : Int) = (x2 : Int) := by rw [IntKind.wrap_i64]; omega
  have v3 : IntKind.i64.wrap (x3 : Int) = (x3 : Int) := by rw [IntKind.wrap_i64]; omega
  obtain ⟨z, hz⟩ : ∃ z : Nat, z = ((x0 * 256 + x1) * 256 + x2) * 256 + x3 := ⟨_, rfl⟩
  rw [← hz] at r ⊢
  have n1 : 0 < n := by omega
  have n2 : 1 < n := by omega
  have n3 : 2 < n := by omega
  have n4 : 3 < n := by omega
  clear h hb hc hp hz hn
  go_enter Tryd.func45, Tryd.ntmps45
  go_upto_region 1 with (fail)
  go_quiet (fail)
  go_wp2_with (fail)
  go_ret
  exact ⟨rfl, by first | exact Below.refl _ _ | exact below_drewN (Below.refl _ _) _⟩
end Go.Proofs.YtllckpcggmfmkaaDoor

/- What a disk is; Len, Down, step, size. -/
namespace Go.Proofs.YtllckpcggmfmkaaDoor
open Go.RowKit

/-- sectors, each a slice of 64 bytes -/
def Secs (w : World) (vs : List Value) (C : List (List Nat)) : Prop := vs.length = C.length ∧ ∀ (i : Nat) (v : Value) (bs : List Nat), vs[i]? = some v → C[i]? = some bs → ByA w v bs ∧ bs.length = 64
/-- a sector that isn't sure yet -/
structure QE where
  pos : Nat
  v : Value
  bs : List Nat
def QE.cells (e : QE) : List Value := [.int .i64 (e.pos : Int), e.v]
def QE.ok (w : World) (n : Nat) (e : QE) : Prop := e.pos < n ∧ ByA w e.v e.bs ∧ e.bs.length = 64
structure DiskAt (w : World) (db B : Nat) (sv qv : Value) (C : List (List Nat)) (Q : List QE) : Prop where
  cell : w.heap[db]? = some (.cells #[sv, qv, .int .i64 0, .bool false] 52 (0, 0))
  sure : ∃ vs, w.ownsRow B 23 1 sv C.length vs ∧ Secs w vs C
  queue : w.ownsRow B 73 2 qv Q.length (Q.flatMap QE.cells)
  qok : ∀ e ∈ Q, QE.ok w C.length e
  few : C.length ≤ 4096
  lt : db < B ∧ B ≤ w.heap.size
theorem Secs.keep {S : Nat → Prop} {w w' : World} {vs : List Value} {C : List (List Nat)} (h : Secs w vs C) (k : Keep S w w') (hn : ∀ i, i < w.heap.size → S i → NoBy w i) : Secs w' vs C :=
  ⟨h.1, fun i v bs hv hb => ⟨(h.2 i v bs hv hb).1.keep k hn, (h.2 i v bs hv hb).2⟩⟩
theorem QE.ok.keep {S : Nat → Prop} {w w' : World} {n : Nat} {e : QE} (h : QE.ok w n e) (k : Keep S w w') (hn : ∀ i, i < w.heap.size → S i → NoBy w i) : QE.ok w' n e := ⟨h.1, h.2.1.keep k hn, h.2.2⟩
/-- what was changed is none of the disk's, nor bytes -/
theorem DiskAt.keep {S : Nat → Prop} {w w' : World} {db B : Nat} {sv qv : Value} {C : List (List Nat)} {Q : List QE} (h : DiskAt w db B sv qv C Q) (k : Keep S w w') (hn : ∀ i, i < w.heap.size → S i → NoBy w i) (hd : ¬ S db) (hs : ∀ g, sv.ownBlock = some g → ¬ S g) (hq : ∀ g, qv.ownBlock = some g → ¬ S g) : DiskAt w' db B sv qv C Q := by
  obtain ⟨vs, ho, hv⟩ := h.sure
  exact ⟨k.heap h.cell hd, ⟨vs, k.own ho hs, hv.keep k hn⟩, k.own h.queue hq, fun e he => (h.qok e he).keep k hn, h.few, h.lt.1, Nat.le_trans h.lt.2 k.size⟩
theorem DiskAt.below {w w' : World} {db B : Nat} {sv qv : Value} {C : List (List Nat)} {Q : List QE} (h : DiskAt w db B sv qv C Q) (b : Below w.heap.size w w') : DiskAt w' db B sv qv C Q :=
  h.keep (Keep.of (S := fun _ => False) b) (fun _ _ h => h.elim) (fun h => h) (fun _ _ h => h) (fun _ _ h => h)
section
variable {w : World} {db B : Nat} {sv qv : Value} {C : List (List Nat)} {Q : List QE}
theorem DiskAt.c0 (h : DiskAt w db B sv qv C Q) : w.cell? ⟨db, 0, none⟩ = some sv := gen_cell (j := 0) (row_range (L := [sv, qv, .int .i64 0, .bool false]) h.cell) rfl
theorem DiskAt.c1 (h : DiskAt w db B sv qv C Q) : w.cell? ⟨db, 1, none⟩ = some qv := gen_cell (j := 1) (row_range (L := [sv, qv, .int .i64 0, .bool false]) h.cell) rfl
theorem DiskAt.c2 (h : DiskAt w db B sv qv C Q) : w.cell? ⟨db, 2, none⟩ = some (.int .i64 0) := gen_cell (j := 2) (row_range (L := [sv, qv, .int .i64 0, .bool false]) h.cell) rfl
theorem DiskAt.c3 (h : DiskAt w db B sv qv C Q) : w.cell? ⟨db, 3, none⟩ = some (.bool false) := gen_cell (j := 3) (row_range (L := [sv, qv, .int .i64 0, .bool false]) h.cell) rfl
theorem DiskAt.sv_eq (h : DiskAt w db B sv qv C Q) : ∃ a c, sv = .slice a C.length c := by
  obtain ⟨vs, ho, _⟩ := h.sure
  obtain ⟨a, c, e, _⟩ := Rd.of_owns ho
  exact ⟨a, c, e⟩
theorem DiskAt.qv_eq (h : DiskAt w db B sv qv C Q) : ∃ a c, qv = .slice a Q.length c := by
  obtain ⟨a, c, e, _⟩ := Rd.of_owns h.queue
  exact ⟨a, c, e⟩
/-- the disk's own blocks are none of bytes -/
theorem own_noBy {e : TypeId} {size n : Nat} {v : Value} {xs : List Value} (h : w.ownsRow B e size v n xs) (he : e ≠ 5) {g : Nat} (hg : v.ownBlock = some g) : NoBy w g := by
  intro cur hc
  rcases h.2 with ⟨hv, _⟩ | ⟨g', cap, cu, hv, _, hg', _⟩
  · subst hv; cases hg
  · subst hv
    cases hg
    rw [hg'] at hc
    simp only [Option.some.injEq, Obj.cells.injEq] at hc
    exact he hc.2.1
theorem DiskAt.noBy (h : DiskAt w db B sv qv C Q) : NoBy w db := by
  intro cur hc
  rw [h.cell] at hc
  simp only [Option.some.injEq, Obj.cells.injEq] at hc
  exact absurd hc.2.1 (by decide)
theorem dlen_walk (h : DiskAt w db B sv qv C Q) : Calls Tryd.prog 41 #[.pointer (some ⟨db, 0, none⟩)] w fun e w' => e = .returned (.int .i64 (C.length : Int)) ∧ w = w' := by
  have c0 := h.c0
  obtain ⟨a, c, rfl⟩ := h.sv_eq
  clear h
  go_enter Tryd.func41, Tryd.ntmps41
  go_wp2
  go_ret
  exact ⟨rfl, rfl⟩
theorem ddown_walk (h : DiskAt w db B sv qv C Q) : Calls Tryd.prog 24 #[.pointer (some ⟨db, 0, none⟩)] w fun e w' => e = .returned (.bool false) ∧ w = w' := by
  have c3 := h.c3
  clear h
  go_enter Tryd.func24, Tryd.ntmps24
  go_wp2
  go_ret
  exact ⟨rfl, rfl⟩
theorem dstep_walk (h : DiskAt w db B sv qv C Q) : Calls Tryd.prog 33 #[.pointer (some ⟨db, 0, none⟩)] w fun e w' => e = .returned (.int .i64 0) ∧ w = w' := by
  have c3 := h.c3
  have c2 := h.c2
  clear h
  go_enter Tryd.func33, Tryd.ntmps33
  go_wp2
  go_ret
  exact ⟨rfl, rfl⟩
theorem dsize_walk (h : DiskAt w db B sv qv C Q) : Calls Tryd.prog 28 #[.pointer (some ⟨db, 0, none⟩)] w fun e w' => e = .returned (.int .i64 ((C.length / 2 : Nat) : Int)) ∧ w = w' := by
  have H := hid h
  have r : IntKind.i64.wrap ((C.length : Int).tdiv 2) = ((C.length / 2 : Nat) : Int) := by have := h.few; rw [IntKind.wrap_i64, Int.tdiv_eq_ediv_of_nonneg (by omega)]; omega
  have r2 : (C.length : Int).tdiv 2 = ((C.length / 2 : Nat) : Int) := by rw [Int.tdiv_eq_ediv_of_nonneg (by omega)]; omega
  obtain ⟨z, hz⟩ : ∃ z, z = C.length / 2 := ⟨_, rfl⟩
  rw [← hz] at r r2 ⊢
  have r3 : wrap64 (z : Int) = (z : Int) := by have := h.few; unfold wrap64; omega
  clear h hz
  go_enter Tryd.func28, Tryd.ntmps28
  go_wp2_with (fail)
  refine (dlen_walk H.out).mono ?_
  rintro e w1 ⟨rfl, rfl⟩
  go_wp2_with (fail)
  go_ret
  exact ⟨congrArg (fun n => Ending.returned (Value.int .i64 n)) r3, rfl⟩
end
end Go.Proofs.YtllckpcggmfmkaaDoor
