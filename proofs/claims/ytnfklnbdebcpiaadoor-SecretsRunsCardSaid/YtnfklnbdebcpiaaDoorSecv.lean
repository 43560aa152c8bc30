/- The walk of the statement SecretsRuns. -/
import Derived.Test.YtnfklnbdebcpiaaDoorSecu
import Derived.Test.YtnfklnbdebcpiaaDoorSecm
namespace Go.Proofs.YtnfklnbdebcpiaaDoor
open Go.RowKit

def OH := { s : List Nat // H32 s }
def OH.cells (s : OH) : List Value := nums .u8 s.1
def hcells (L : List (List Nat)) : List Value := L.flatMap (nums .u8)
theorem oh_flat (xs : List OH) : xs.flatMap OH.cells = hcells (xs.map (·.1)) := by
  induction xs with
  | nil => rfl
  | cons x r ih => rw [List.flatMap_cons, ih]; rfl
theorem hcells_len {L : List (List Nat)} (h : ∀ s ∈ L, H32 s) : (hcells L).length = L.length * 32 := by
  induction L with
  | nil => rfl
  | cons x r ih =>
    rw [hcells, List.flatMap_cons, List.length_append, nums_length, (h x (by simp)).1, List.length_cons]
    have := ih (fun s hs => h s (List.mem_cons_of_mem _ hs))
    rw [hcells] at this
    omega
theorem hcells_get : ∀ {L : List (List Nat)} (_ : ∀ s ∈ L, H32 s) {k : Nat} (_ : k < L.length) {j : Nat} {v : Value}, (nums .u8 (L.getD k []))[j]? = some v → (hcells L)[k * 32 + j]? = some v
  | [], _, _, hk, _, _, _ => by simp at hk
  | x :: r, h, 0, _, j, v, hv => by
    have hv' : (nums .u8 x)[j]? = some v := hv
    have hj : j < (nums .u8 x).length := (List.getElem?_eq_some_iff.1 hv').1
    show (nums .u8 x ++ hcells r)[0 * 32 + j]? = _
    rw [Nat.zero_mul, Nat.zero_add, List.getElem?_append_left hj]; exact hv'
  | x :: r, h, k + 1, hk, j, v, hv => by
    have hx := (h x (by simp)).1
    show (nums .u8 x ++ hcells r)[(k + 1) * 32 + j]? = _
    rw [List.getElem?_append_right (by rw [nums_length]; omega), nums_length, hx, show (k + 1) * 32 + j - 32 = k * 32 + j by omega]
    exact hcells_get (fun s hs => h s (List.mem_cons_of_mem _ hs)) (by simpa using hk) hv
/-- hashes that lie one behind the other -/
def Hs (w : World) (a : Option Addr) (n c : Nat) (L : List (List Nat)) : Prop := Rd w 32 a n c (hcells L) ∧ L.length = n ∧ ∀ s ∈ L, H32 s
theorem Hs.below {w w' : World} {a : Option Addr} {n c : Nat} {L : List (List Nat)} (h : Hs w a n c L) (hb : Below w.heap.size w w') : Hs w' a n c L := ⟨h.1.below hb, h.2⟩
theorem Hs.get {w : World} {a : Option Addr} {n c k : Nat} {L : List (List Nat)} (h : Hs w a n c L) (hk : k < n) : ∃ b off, a = some ⟨b, off, none⟩ ∧ w.rangeAt b (off + k * 32) (nums .u8 (L.getD k [])) ∧ H32 (L.getD k []) := by
  obtain ⟨⟨_, _, _, _, b, off, ha, hc⟩, hl, hg⟩ := h
  refine ⟨b, off, ha (by omega), fun j v hj => ?_, ?_⟩
  · rw [Nat.add_assoc]; exact hc _ _ (hcells_get hg (by omega) hj)
  · rw [List.getD_eq_getElem?_getD, List.getElem?_eq_getElem (by omega)]
    exact hg _ (List.getElem_mem _)
def ints (zs : List Int) : List Value := zs.map (Value.int .i64)
def Is (w : World) (a : Option Addr) (n c : Nat) (zs : List Int) : Prop := Rd w 1 a n c (ints zs)
theorem Is.below {w w' : World} {a : Option Addr} {n c : Nat} {zs : List Int} (h : Is w a n c zs) (hb : Below w.heap.size w w') : Is w' a n c zs := Rd.below h hb
theorem Is.len {w : World} {a : Option Addr} {n c : Nat} {zs : List Int} (h : Is w a n c zs) : zs.length = n := by have := h.1; simpa [ints] using this
theorem Is.get {w : World} {a : Option Addr} {n c k : Nat} {zs : List Int} (h : Is w a n c zs) (hk : k < n) : ∃ b off, a = some ⟨b, off, none⟩ ∧ w.cell? ⟨b, off + k, none⟩ = some (.int .i64 (zs.getD k 0)) := by
  have hl := h.len
  obtain ⟨_, _, _, _, b, off, ha, hc⟩ := h
  refine ⟨b, off, ha (by omega), hc k _ ?_⟩
  rw [ints, List.getElem?_map, List.getElem?_eq_getElem (by omega), List.getD_eq_getElem?_getD, List.getElem?_eq_getElem (by omega)]; rfl
theorem and3 (n : Int) : bits .and .i64 n 3 = n % 4 := by
  have h127 : (BitVec.ofInt 64 3).toNat = 2 ^ 2 - 1 := by decide
  have key : (BitVec.ofInt 64 n &&& BitVec.ofInt 64 3).toNat = (n % ((2 ^ 64 : Nat) : Int)).toNat % 2 ^ 2 := by
    rw [BitVec.toNat_and, BitVec.toNat_ofInt, h127, Nat.and_two_pow_sub_one_eq_mod]
  show IntKind.i64.wrap ((BitVec.ofInt 64 n &&& BitVec.ofInt 64 3).toNat : Nat) = n % 4
  rw [key, IntKind.wrap_i64]
  omega
theorem and255 (n : Int) : bits .and .i64 n 255 = n % 256 := by
  have h127 : (BitVec.ofInt 64 255).toNat = 2 ^ 8 - 1 := by decide
  have key : (BitVec.ofInt 64 n &&& BitVec.ofInt 64 255).toNat = (n % ((2 ^ 64 : Nat) : Int)).toNat % 2 ^ 8 := by
    rw [BitVec.toNat_and, BitVec.toNat_ofInt, h127, Nat.and_two_pow_sub_one_eq_mod]
  show IntKind.i64.wrap ((BitVec.ofInt 64 n &&& BitVec.ofInt 64 255).toNat : Nat) = n % 256
  rw [key, IntKind.wrap_i64]
  omega
theorem and31 (x : Nat) (h : x < 18446744073709551616) : bits .and .u64 (x : Int) 31 = ((x % 32 : Nat) : Int) := by
  have h1 := bits_and_u64_nat x 31 h (by omega)
  have e : x &&& 31 = x % 32 := Nat.and_two_pow_sub_one_eq_mod x 5
  rw [e] at h1
  exact h1
theorem Far.low {H : Nat} {u v w : World} (h : Far H u v) (k : Below u.heap.size v w) : Far H u w :=
  ⟨k.os.trans h.os, k.tape.trans h.tape, k.output.trans h.output, Nat.le_trans h.size k.size, fun i hi hn => (k.block i hi).trans (h.block i hi hn)⟩
theorem and1 (n : Int) : bits .and .i64 n 1 = n % 2 := by
  have h127 : (BitVec.ofInt 64 1).toNat = 2 ^ 1 - 1 := by decide
  have key : (BitVec.ofInt 64 n &&& BitVec.ofInt 64 1).toNat = (n % ((2 ^ 64 : Nat) : Int)).toNat % 2 ^ 1 := by
    rw [BitVec.toNat_and, BitVec.toNat_ofInt, h127, Nat.and_two_pow_sub_one_eq_mod]
  show IntKind.i64.wrap ((BitVec.ofInt 64 n &&& BitVec.ofInt 64 1).toNat : Nat) = n % 2
  rw [key, IntKind.wrap_i64]
  omega
def zagg : Value := .agg #[.int .u8 0, .int .u8 0, .int .u8 0, .int .u8 0, .int .u8 0, .int .u8 0, .int .u8 0, .int .u8 0, .int .u8 0, .int .u8 0, .int .u8 0, .int .u8 0, .int .u8 0, .int .u8 0, .int .u8 0, .int .u8 0, .int .u8 0, .int .u8 0, .int .u8 0, .int .u8 0, .int .u8 0, .int .u8 0, .int .u8 0, .int .u8 0, .int .u8 0, .int .u8 0, .int .u8 0, .int .u8 0, .int .u8 0, .int .u8 0, .int .u8 0, .int .u8 0]
theorem guard32 : Tryd.prog.eqGuardType Tryd.prog.depth 22 = false := by kernel_rfl
theorem guard_h32 (xs ys : List Nat) : ∀ (op : BinOp) (x y : Operand) (w : World), (eqGuard op 22 x y (hv xs) (hv ys)).run Tryd.prog w = .ok () w := by
  intro op x y w
  exact run_eqGuard_agg w op 22 x y _ _ guard32
theorem one32' (S : List Nat) : (nums .u8 S).toArray.toList.all Value.oneCell' = true := List.all_eq_true.2 (nums_oneCell .u8 S)
theorem infoHol {xs : List Nat} (h : H32 xs) : (Tryd.prog.info? 22).map (·.size) = some (nums .u8 xs).length := by
  have := infoHo h
  rwa [List.size_toArray] at this
theorem tyHs : SliceTy Tryd.prog 48 22 32 32 (.agg (nums .u8 zero32).toArray) := .mk' Tryd.underlying48 (by kernel_rfl) (by kernel_rfl) (by decide)
/-- what is found, and what is told -/
def Fnd (K : KM) (np p : Nat) (b : Bool) (X : List Nat) (n : Nat) : Prop :=
  (b = true ∧ ∃ n0, n0 < n ∧ hit K np p n0 ∧ (∀ j, j < n0 → ¬ hit K np p j) ∧ X = leadN p n0 (K n0).2) ∨ (b = false ∧ (∀ j, j < n → ¬ hit K np p j) ∧ X = zero32)
def Spec (K : KM) (np p : Nat) (b : Bool) (Y : List Nat) : Prop :=
  (b = true ∧ ∃ n0, n0 < 49 ∧ hit K np p n0 ∧ (∀ j, j < n0 → ¬ hit K np p j) ∧ Y = leadN p n0 (K n0).2) ∨ (b = false ∧ (∀ j, j < 49 → ¬ hit K np p j) ∧ Y = zero32)
theorem Fnd.same {K : KM} {np p n : Nat} {b bo : Bool} {X Y : List Nat} (h : Fnd K np p b X n) (k : Spec K np p bo Y) (h49 : n ≤ 49) (hn : b = true ∨ 49 ≤ n) : b = bo ∧ X = Y := by
  rcases h with ⟨rfl, n0, h1, h2, h3, rfl⟩ | ⟨rfl, h2, rfl⟩
  · rcases k with ⟨rfl, m0, k1, k2, k3, rfl⟩ | ⟨rfl, k2, rfl⟩
    · have : n0 = m0 := by
        rcases Nat.lt_trichotomy n0 m0 with h | h | h
        · exact absurd h2 (k3 n0 h)
        · exact h
        · exact absurd k2 (h3 m0 h)
      subst this
      exact ⟨rfl, rfl⟩
    · have hlt : n0 < 49 := by omega
      exact absurd h2 (k2 n0 hlt)
  · rcases hn with hn | hn
    · cases hn
    · rcases k with ⟨rfl, m0, k1, k2, k3, rfl⟩ | ⟨rfl, k2, rfl⟩
      · exact absurd k2 (h2 m0 (by omega))
      · exact ⟨rfl, rfl⟩
theorem eqz1 : ∀ (op : BinOp) (x y : Operand) (w : World), (eqGuard op 23 x y (.agg (nums .u8 zero32).toArray) (.agg #[.int .u8 0, .int .u8 0, .int .u8 0, .int .u8 0, .int .u8 0, .int .u8 0, .int .u8 0, .int .u8 0, .int .u8 0, .int .u8 0, .int .u8 0, .int .u8 0, .int .u8 0, .int .u8 0, .int .u8 0, .int .u8 0, .int .u8 0, .int .u8 0, .int .u8 0, .int .u8 0, .int .u8 0, .int .u8 0, .int .u8 0, .int .u8 0, .int .u8 0, .int .u8 0, .int .u8 0, .int .u8 0, .int .u8 0, .int .u8 0, .int .u8 0, .int .u8 0])).run Tryd.prog w = .ok () w := guard_hv zero32 zero32
theorem eqz2 : ∀ w : World, (binOp .neq 23 (.agg (nums .u8 zero32).toArray) (.agg #[.int .u8 0, .int .u8 0, .int .u8 0, .int .u8 0, .int .u8 0, .int .u8 0, .int .u8 0, .int .u8 0, .int .u8 0, .int .u8 0, .int .u8 0, .int .u8 0, .int .u8 0, .int .u8 0, .int .u8 0, .int .u8 0, .int .u8 0, .int .u8 0, .int .u8 0, .int .u8 0, .int .u8 0, .int .u8 0, .int .u8 0, .int .u8 0, .int .u8 0, .int .u8 0, .int .u8 0, .int .u8 0, .int .u8 0, .int .u8 0, .int .u8 0, .int .u8 0])).run Tryd.prog w = .ok (.bool false) w := fun w => by
  have := neq_hv (w := w) zero32_ok.1 zero32_ok.1 zero32_ok.2 zero32_ok.2
  rw [decide_eq_true rfl] at this; exact this
set_option maxRecDepth 100000 in
set_option maxHeartbeats 8000000 in
theorem lawRuns (s : List Nat) (oa : Option Addr) (on oc : Nat) (os : List (List Nat)) (wa : Option Addr) (wn wc : Nat) (zs : List Int) (qa : Option Addr) (qn qc : Nat) (qs : List Nat)
    (hs : H32 s) (hq64 : ∀ d ∈ qs, d < 18446744073709551616) (w : World) (ho : Hs w oa on oc os) (hw : Is w wa wn wc zs) (hq : Sl .u64 w qa qn qc qs) (ht : Tabs w ∧ Tab64 w) :
    Calls Tryd.prog 5 #[hv s, .slice oa on oc, .slice wa wn wc, .slice qa qn qc] w fun e w' => e = .returned (.bool true) ∧ Below w.heap.size w w' := by
  have HT := hid ht.1
  have H6 := hid ht.2
  have HO := hid ho
  have HW := hid hw
  have HQ := hid hq
  have HQ64 := hid hq64
  have unH := Tryd.underlying23
  have un32 := Tryd.underlying22
  have hiP := hid (infoHl' hs)
  have gP := heap_alloc_new w (.cells (nums .u8 s).toArray 23)
  have b0 := (Below.refl w.heap.size w).alloc (Nat.le_refl _) (.cells (nums .u8 s).toArray 23)
  have zr := zv47
  have zn := zn47
  have zr2 := zv34
  have zn2 := zn34
  clear ht ho hw hq hq64
  unfold hv
  go_enter Tryd.func5, Tryd.ntmps5
  go_wp2_with fail
  generalize World.alloc w _ = w0 at *
  refine (sechead_walk w0 (HT.out.below b0) (H6.out.below b0)).mono ?_
  rintro e w1 ⟨rfl, b1⟩
  have B1 := hid (b0.trans (b1.mono b0.size))
  have VP1 := hid (heap_keep gP b1)
  clear gP b0 b1
  generalize hP : w.heap.size = P at *
  have hpw1 : P < w1.heap.size := (Array.getElem?_eq_some_iff.1 VP1.out).1
  by_cases hbig : 30 < wn
  · have t1 : decide ((wn : Int) > 30) = true := by rw [decide_eq_true_eq]; omega
    clear hbig
    go_wp2
    go_ret
    exact ⟨rfl, hP ▸ B1.out⟩
  · have t1 : decide ((wn : Int) > 30) = false := by rw [decide_eq_false_iff_not]; omega
    have hwn : wn ≤ 30 := by omega
    clear hbig
    by_cases hbig : 30 < qn
    · have t2 : decide ((qn : Int) > 30) = true := by rw [decide_eq_true_eq]; omega
      clear hbig
      go_wp2
      go_ret
      exact ⟨rfl, hP ▸ B1.out⟩
    · have t2 : decide ((qn : Int) > 30) = false := by rw [decide_eq_false_iff_not]; omega
      have hqn : qn ≤ 30 := by omega
      clear hbig
      go_wp2_with fail
      refine (make_walk _).mono ?_
      rintro e w2 ⟨rfl, b2⟩
      have B2 := hid (B1.out.trans (b2.mono (Nat.le_of_lt hpw1)))
      have VP2 := hid (heap_keep VP1.out b2)
      rw [tabV_eq]
      clear b2 VP1 B1 t1 t2
      go_upto_region 6 with (refine wpList_store_row rfl _ _ _ rfl w2.heap.size tabC rfl rfl _ _ (heap_alloc_new w2 _) tabC_info tabC_size tabC_one ?_)
      have LA := fun z => laid w2 z tabC 34
      generalize hW : World.setRow _ _ _ = w3
      replace LA := hid (hW ▸ LA _)
      have hpw2 : P < w2.heap.size := (Array.getElem?_eq_some_iff.1 VP2.out).1
      have B3 := hid (B2.out.trans (LA.out.2.mono (Nat.le_of_lt hpw2)))
      have VP3 := hid (heap_keep VP2.out LA.out.2)
      have VT3 := hid LA.out.1
      have hpw3 : P < w3.heap.size := (Array.getElem?_eq_some_iff.1 VP3.out).1
      clear hW LA VP2 B2
      generalize hT0 : w2.heap.size = T0 at *
      have hPT : P < T0 := hpw2
      clear hT0 hpw2
      have ch0 : ChAt (w3.alloc (.cells zc47 47)) w3.heap.size (KPf [] 0) 0 := ⟨⟨_, heap_alloc_new w3 _, zch⟩⟩
      have b4 := (Below.refl w3.heap.size w3).alloc (Nat.le_refl _) (.cells zc47 47)
      go_upto_region 7 with (fail)
      generalize w3.alloc (.cells zc47 47) = w4 at *
      have HC4 := hid ch0
      have VP4 := hid (heap_keep VP3.out b4)
      have VT4 := hid (heap_keep VT3.out b4)
      have B4 := hid (B3.out.trans (b4.mono (Nat.le_of_lt hpw3)))
      have hT3 : T0 < w3.heap.size := (Array.getElem?_eq_some_iff.1 VT3.out).1
      clear ch0 b4 VP3 VT3 B3
      generalize hcb : w3.heap.size = cb at *
      have hcbw : cb < w4.heap.size := HC4.out.lt
      clear hcb
      have O1 := hid (World.ownsRow_made (base := w4.heap.size) (e := 22) (size := 32) w4 #[] 0 (Nat.le_refl _) (by simp) (by simp))
      have bb := (Below.refl w4.heap.size w4).alloc (Nat.le_refl _) (.cells #[] 22)
      go_upto_region 8 with (fail)
      generalize hW5 : w4.alloc (.cells #[] 22) = w5 at *
      have F5 := hid (show Far cb w4 w5 from Far.of bb)
      have HC5 := hid (HC4.out.below bb)
      have O5 := hid O1.out
      obtain ⟨B, hB⟩ : ∃ B, B = w4.heap.size := ⟨_, rfl⟩
      rw [← hB] at O5 hcbw
      have HB := hid hB
      clear O1 bb hW5 HC4 hB
      go_wp2
      go_loopw [11, 50] (fun x11 x50 wr => ∃ (i : Nat) (PS : List (List Nat)) (v : Value), i ≤ wn ∧ x50 = .int .i64 i ∧ v = x11 ∧ PS.length ≤ i ∧ Hid (∀ q ∈ PS, H32 q) ∧ Hid (wr.ownsRow B 22 32 v PS.length (hcells PS)) ∧ Hid (ChAt wr cb (KPf PS PS.length) PS.length) ∧ Hid (Far cb w4 wr)) (fun _ x50 _ => wn - (intOf x50).toNat)
      case atStart => exact ⟨0, [], _, by omega, rfl, rfl, by simp, hid (by simp), hid (by have := O5.out; rw [HB.out] at this ⊢; exact this), HC5, F5⟩
      case round =>
        clear O5 HC5 F5
        obtain ⟨i, PS, v, hi, rfl, rfl, hPS, hPH, HOw, HC, HF⟩ := hrel
        obtain ⟨pa, pc, rfl, hrd⟩ := Rd.of_owns HOw.out
        have HBr := hid (show Below P w wr from B4.out.trans (HF.out.below (by omega) (by have := HB.out; omega)))
        have HBw := hid (show Below w.heap.size w wr from hP ▸ HBr.out)
        have VPr := hid (heap_far VP4.out HF.out (by omega))
        have VTr := hid (heap_far VT4.out HF.out (by omega))
        obtain ⟨np, hnp⟩ : ∃ np, np = PS.length := ⟨_, rfl⟩
        rw [← hnp] at HOw HC hPS hrd ⊢
        have HNP := hid hnp
        have HRD := hid hrd
        have f1 := row_range VPr.out
        have f2 := row_range (L := nums .u32 (H0 ++ K0)) VTr.out
        have hiT := hid (show (Tryd.prog.info? 34).map (·.size) = some (nums .u32 (H0 ++ K0)).length by rw [nums_length]; exact infoTab)
        clear hnp hrd
        by_cases hlt : i < wn
        · obtain ⟨b3, o3, ha3, hc3⟩ := (HW.out.below HBw.out).get hlt
          obtain ⟨z, hz⟩ : ∃ z, z = zs.getD i 0 := ⟨_, rfl⟩
          rw [← hz] at hc3
          obtain ⟨p, hp⟩ : ∃ p : Nat, p = 281474976710655 - np := ⟨_, rfl⟩
          have ep : 281474976710655 - (np : Int) = (p : Int) := by omega
          have hp48 : p < 281474976710656 := by omega
          have HPP := hid hp
          subst ha3
          clear hz hp
          go_wp2_with (first | (refine wpList_load_mid rfl _ _ rfl P 0 rfl (nums .u8 s) _ f1 unH rfl hiP.out ?_) | (refine wpList_load_mid rfl _ _ rfl T0 0 rfl (nums .u32 (H0 ++ K0)) _ f2 Tryd.underlying34 rfl hiT.out ?_))
          refine (lead_walk s p 48 hs (by omega) (by omega) _).mono ?_
          rintro e w6 ⟨rfl, b6⟩
          have hSo := hid (show H32 (leadN p 48 s) from leadN_ok hs)
          obtain ⟨S, hS⟩ : ∃ S, S = leadN p 48 s := ⟨_, rfl⟩
          rw [← hS] at hSo ⊢
          clear hS f1 f2 hc3
          have HC6 := hid (HC.out.below b6)
          have HF6 := hid (HF.out.trans (Far.of b6))
          have HO6 := hid (own_below HOw.out b6)
          clear b6
          unfold hv
          go_upto_region 13 with (refine wpList_store_row rfl _ _ _ rfl w6.heap.size (nums .u8 S).toArray rfl rfl _ _ (heap_alloc_new w6 _) (infoHo hSo.out) (sz32 hSo.out _ rfl) (one32 S) ?_)
          have LA := fun z => laid w6 z (nums .u8 S).toArray 22
          generalize hWW : World.setRow _ _ _ = wy
          replace LA := hid (hWW ▸ LA _)
          have HCy := hid (HC6.out.below LA.out.2)
          have HFy := hid (HF6.out.trans (Far.of LA.out.2))
          have HOy := hid (own_below HO6.out LA.out.2)
          have HVy := hid LA.out.1
          have hVn : B ≤ w6.heap.size := by have := HF6.out.size; have := HB.out; omega
          have hOV := hid (show (Value.slice pa np pc).ownBlock ≠ some w6.heap.size from fun e => by have := (HO6.out.lt _ e).2; omega)
          clear hWW LA HC6 HF6 HO6 HC HF HOw HRD
          generalize w6.heap.size = V at *
          have esel : bits .and .i64 z 3 = z % 4 := and3 z
          by_cases hsel : z % 4 = 1 ∧ 0 < on
          · obtain ⟨hs1, hs2⟩ := hsel
            have t3 : (z % 4 == 1) = true := by rw [beq_iff_eq]; exact hs1
            have t4 : decide ((on : Int) > 0) = true := by rw [decide_eq_true_eq]; omega
            have t5 : decide (0 < on) = true := by rw [decide_eq_true_eq]; omega
            obtain ⟨y, hy⟩ : ∃ y : Nat, (z / 4) % 256 = (y : Int) := ⟨((z / 4) % 256).toNat, by omega⟩
            have e1 : bits .and .i64 (z / 4) 255 = (y : Int) := by rw [and255]; exact hy
            obtain ⟨k, hk⟩ : ∃ k : Nat, k = y % on := ⟨_, rfl⟩
            have hko : k < on := by rw [hk]; exact Nat.mod_lt _ hs2
            have e2 : (y : Int) % (on : Int) = (k : Int) := by rw [hk]; exact (Int.natCast_emod y on).symm
            have z1 : ((on : Int) == 0) = false := by rw [beq_eq_false_iff_ne]; omega
            have hkoI : (k : Int) < (on : Int) := by omega
            have HBy := hid (show Below w.heap.size w wy from hP ▸ B4.out.trans (HFy.out.below (by omega) (by have := HB.out; omega)))
            obtain ⟨b4, o4, ha4, hr4, hk32⟩ := (HO.out.below HBy.out).get hko
            obtain ⟨S2, hS2⟩ : ∃ S2, S2 = os.getD k [] := ⟨_, rfl⟩
            rw [← hS2] at hr4 hk32
            have hiS2 := hid (infoHl' hk32)
            have hiS2a := hid (infoHo hk32)
            have hzS2 := hid (show (nums .u8 S).toArray.size = (nums .u8 S2).toArray.size by simp [hSo.out.1, hk32.1])
            subst ha4
            clear hy hk hS2 hs1
            go_upto_region 15 with (first | (refine wpList_load_mid rfl _ _ rfl b4 (o4 + k * 32) rfl (nums .u8 S2) _ hr4 unH rfl hiS2.out ?_) | (refine wpList_store_row rfl _ _ _ rfl V (nums .u8 S2).toArray rfl rfl _ _ HVy.out hiS2a.out hzS2.out (one32 S2) ?_))
            have fz := far_row wy V (nums .u8 S2).toArray
            have HVz := hid (setRow_heap wy V _ (nums .u8 S2).toArray _ _ HVy.out)
            have HCz := hid (HCy.out.far fz (by omega))
            have HFz := hid (HFy.out.newer fz (by have := HB.out; omega))
            have HOz := hid (Far.own HOy.out fz hOV.out)
            have hSz := hid hk32
            clear HVy HCy HFy HOy fz hiS2 hiS2a hzS2 hr4 t3 t4 t5 e1 e2 z1 hkoI esel hko hs2 HBy hSo hk32
            generalize wy.setRow V _ = wz at *
            obtain ⟨S, hSS⟩ : ∃ S, S = S2 := ⟨_, rfl⟩
            subst hSS
            go_wp2_with fail
            refine (noughts_walk p (by omega) _).mono ?_
            rintro e wz ⟨rfl, rfl⟩
            obtain ⟨m, hm⟩ : ∃ m, m = nz p := ⟨_, rfl⟩
            have hm48 : m ≤ 48 := by rw [hm]; exact nz_le p
            rw [← hm]
            have HM := hid hm
            obtain ⟨K, hK⟩ : ∃ K, K = KPf PS np := ⟨_, rfl⟩
            rw [← hK] at HCz
            have HK := hid hK
            have HBz := hid (show Below P w wz from B4.out.trans (HFz.out.below (by omega) (by have := HB.out; omega)))
            have HVPz := hid (heap_far VP4.out HFz.out (by omega))
            have HVTz := hid (heap_far VT4.out HFz.out (by omega))
            have hiS := hid (infoHol hSz.out)
            have hPz : P ≤ wz.heap.size := by have := HBz.out.size; have := (Array.getElem?_eq_some_iff.1 HVPz.out).1; omega
            clear hm hK
            go_wp2
            go_loopw [17, 18] (fun x17 x18 wr => ∃ (j : Nat) (b : Bool), j ≤ m ∧ x18 = .int .i64 j ∧ x17 = .bool b ∧ Hid (b = true ↔ ∀ l, l < j → leadN (K l).1 m S = (K l).2) ∧ Below wz.heap.size wz wr) (fun _ x18 _ => m - (intOf x18).toNat)
            case atStart => exact ⟨0, true, by omega, rfl, rfl, hid (by simp), Below.refl _ _⟩
            case round =>
              obtain ⟨j, b, hj, rfl, rfl, hfit, hbl⟩ := hrel
              have HBL := hid hbl
              clear hbl
              by_cases hjm : j < m
              · go_wp2
                go_loopw [17, 19] (fun x17 x19 wr => ∃ k : Nat, k ≤ np ∧ x19 = .int .i64 ((k : Int) - 1) ∧ x17 = .bool b ∧ Hid (∀ l, k ≤ l → l < np → nz (281474976710655 - l) ≠ j) ∧ Below wz.heap.size wz wr) (fun _ x19 _ => (intOf x19 + 1).toNat)
                case atStart => exact ⟨np, by omega, rfl, rfl, hid (fun l h1 h2 => by omega), HBL.out⟩
                case round =>
                  clear HBL
                  obtain ⟨k, hk, rfl, rfl, hno, hbl⟩ := hrel
                  have HBL := hid hbl
                  clear hbl
                  by_cases h0 : 0 < k
                  · obtain ⟨l, rfl⟩ : ∃ l, k = l + 1 := ⟨k - 1, by omega⟩
                    have ej : (((l + 1 : Nat) : Int) - 1) = (l : Int) := by omega
                    rw [ej]
                    obtain ⟨q, hq⟩ : ∃ q : Nat, q = 281474976710655 - l := ⟨_, rfl⟩
                    have eq' : 281474976710655 - (l : Int) = (q : Int) := by omega
                    have hq48 : q < 281474976710656 := by omega
                    have HQ2 := hid hq
                    clear ej hq
                    go_wp2_with fail
                    refine (noughts_walk q (by omega) _).mono ?_
                    rintro e wr ⟨rfl, rfl⟩
                    by_cases hnz : nz q = j
                    · have HKj := hid (show K j = (q, PS.getD l []) by
                        rw [HK.out, HQ2.out]
                        exact kpf_last PS np l j (by omega) (by rw [← HQ2.out]; exact hnz) (fun l' h1 h2 => hno.out l' (by omega) h2))
                      rw [hnz]
                      obtain ⟨ra, rc, hrv, hrd⟩ := Rd.of_owns (own_below HOz.out HBL.out)
                      have hHs : Hs wr ra np rc PS := ⟨hrd, HNP.out.symm, hPH.out⟩
                      obtain ⟨b5, o5, ha5, hr5, hX32⟩ := hHs.get (show l < np by omega)
                      simp only [Value.slice.injEq] at hrv
                      obtain ⟨rfl, _, rfl⟩ := hrv
                      subst ha5
                      obtain ⟨X, hX⟩ : ∃ X, X = PS.getD l [] := ⟨_, rfl⟩
                      rw [← hX] at HKj hr5 hX32
                      have RX := hid hr5
                      have hXo := hid hX32
                      have hiX := hid (infoHol hX32)
                      have RT := hid (row_range (L := nums .u32 (H0 ++ K0)) (heap_keep HVTz.out HBL.out))
                      have RV := hid (row_range (heap_keep HVz.out HBL.out))
                      have e1 : ∀ (op : BinOp) (x y : Operand) (w : World), (eqGuard op 22 x y (hv (leadN q m S)) (.agg (nums .u8 X).toArray)).run Tryd.prog w = .ok () w := guard_h32 (leadN q m S) X
                      have hlo : H32 (leadN q m S) := leadN_ok hSz.out
                      have e2 : ∀ w, (binOp .neq 22 (hv (leadN q m S)) (.agg (nums .u8 X).toArray)).run Tryd.prog w = .ok (.bool (!decide (leadN q m S = X))) w := fun w => run_neq_hv un32 w hlo.1 hXo.out.1 hlo.2 hXo.out.2
                      have hl32 : (l : Int) < (np : Int) := by omega
                      clear hX hr5 hX32 hHs hrd hlo hnz hno
                      by_cases heq : leadN q m S = X
                      · rw [decide_eq_true heq] at e2
                        have hfit' := hid (show b = true ↔ ∀ l', l' < j + 1 → leadN (K l').1 m S = (K l').2 from by
                          rw [hfit.out]
                          constructor
                          · intro h l' hl'
                            by_cases hlj : l' = j
                            · subst hlj; rw [HKj.out]; exact heq
                            · exact h l' (by omega)
                          · exact fun h l' hl' => h l' (by omega))
                        clear heq
                        go_upto_region 25 with (fail)
                        refine wp_region_held_drew (S := fun w' => Below wr.heap.size wr w') (by kernel_rfl) ((Below.refl _ _).drew) (fun hHeld => ?_)
                        try simp only [List.size_toArray, List.length_cons, List.length_nil, Nat.reduceAdd, Array.replicate_succ, Array.replicate_zero, List.push_toArray, List.nil_append, List.cons_append]
                        refine' wpAnyH_take (i := 0) (oi := { dst := some 100, op := Op.load 34 (Operand.tmp 9), type := 34, pos := "law.go:93", after := #[], guard := none }) (v := _) rfl (by kernel_rfl) (by kernel_rfl) (by kernel_rfl) (fun _ _ _ h => h) (yieldsIf_load_mid (by rfl) _ _ rfl T0 0 rfl (nums .u32 (H0 ++ K0)) _ (fun _ h => range_keep h RT.out) Tryd.underlying34 rfl hiT.out) hHeld ?_
                        (try simp only [Act.put, List.setIfInBounds_toArray, List.set_cons_zero, List.set_cons_succ])
                        refine' wpAnyH_take (i := 1) (oi := { dst := some 101, op := Op.load 22 (Operand.tmp 15), type := 22, pos := "law.go:93", after := #[], guard := none }) (v := _) rfl (by kernel_rfl) (by kernel_rfl) (by kernel_rfl) (fun _ _ _ h => h) (yieldsIf_load_mid (by rfl) _ _ rfl V 0 rfl (nums .u8 S) _ (fun _ h => range_keep h RV.out) un32 rfl hiS.out) hHeld ?_
                        (try simp only [Act.put, List.setIfInBounds_toArray, List.set_cons_zero, List.set_cons_succ])
                        refine wpAnyH_take (i := 2) (oi := { dst := some 102, op := Op.move (Operand.tmp 20), type := 24, pos := "law.go:93", after := #[], guard := none }) (v := ?v1) rfl (by kernel_rfl) (by kernel_rfl) (by kernel_rfl) (fun _ _ _ h => h) (Or.inl ⟨by rfl, ?hy1⟩) hHeld ?_
                        case hy1 => (intro w hSw; (try dsimp only at hSw); go_simp; (try with_reducible rfl))
                        (try simp only [Act.put, List.setIfInBounds_toArray, List.set_cons_zero, List.set_cons_succ])
                        refine wpAnyH_take (i := 3) (oi := { dst := some 103, op := Op.move (Operand.tmp 16), type := 3, pos := "law.go:93", after := #[], guard := none }) (v := ?v2) rfl (by kernel_rfl) (by kernel_rfl) (by kernel_rfl) (fun _ _ _ h => h) (Or.inl ⟨by rfl, ?hy2⟩) hHeld ?_
                        case hy2 => (intro w hSw; (try dsimp only at hSw); go_simp; (try with_reducible rfl))
                        (try simp only [Act.put, List.setIfInBounds_toArray, List.set_cons_zero, List.set_cons_succ])
                        refine wpAnyH_take (i := 5) (oi := { dst := some 105, op := Op.move (Operand.tmp 11), type := 48, pos := "law.go:93", after := #[], guard := none }) (v := ?v3) rfl (by kernel_rfl) (by kernel_rfl) (by kernel_rfl) (fun _ _ _ h => h) (Or.inl ⟨by rfl, ?hy3⟩) hHeld ?_
                        case hy3 => (intro w hSw; (try dsimp only at hSw); go_simp; (try with_reducible rfl))
                        (try simp only [Act.put, List.setIfInBounds_toArray, List.set_cons_zero, List.set_cons_succ])
                        refine wpAnyH_take (i := 6) (oi := { dst := some 106, op := Op.move (Operand.tmp 19), type := 3, pos := "law.go:93", after := #[], guard := none }) (v := ?v4) rfl (by kernel_rfl) (by kernel_rfl) (by kernel_rfl) (fun _ _ _ h => h) (Or.inl ⟨by rfl, ?hy4⟩) hHeld ?_
                        case hy4 => (intro w hSw; (try dsimp only at hSw); go_simp; (try with_reducible rfl))
                        (try simp only [Act.put, List.setIfInBounds_toArray, List.set_cons_zero, List.set_cons_succ])
                        refine wpAnyH_take (i := 7) (oi := { dst := some 107, op := Op.indexAddr 48 (Operand.tmp 105) (Operand.tmp 106), type := 0, pos := "law.go:93", after := #[{ on := 5, ground := Ground.data }, { on := 6, ground := Ground.data }], guard := none }) (v := ?v5) rfl (by kernel_rfl) (by kernel_rfl) (by kernel_rfl) (fun _ _ _ h => h) (Or.inl ⟨by rfl, ?hy5⟩) hHeld ?_
                        case hy5 => (intro w hSw; (try dsimp only at hSw); go_simp; (try with_reducible rfl))
                        (try simp only [Act.put, List.setIfInBounds_toArray, List.set_cons_zero, List.set_cons_succ])
                        refine' wpAnyH_take (i := 8) (oi := { dst := some 108, op := Op.load 22 (Operand.tmp 107), type := 22, pos := "law.go:93", after := #[{ on := 7, ground := Ground.data }], guard := none }) (v := _) rfl (by kernel_rfl) (by kernel_rfl) (by kernel_rfl) (fun _ _ _ h => h) (yieldsIf_load_mid (by rfl) _ _ rfl b5 (o5 + l * 32) rfl (nums .u8 X) _ (fun _ h => range_keep h RX.out) un32 rfl hiX.out) hHeld ?_
                        (try simp only [Act.put, List.setIfInBounds_toArray, List.set_cons_zero, List.set_cons_succ])
                        refine wpAnyH_ready (rs := [4]) (by kernel_rfl) (by simp) ?_
                        refine AllReadyH.cons (o := { dst := some 104, op := Op.call { callee := Callee.value (Operand.func 10), args := #[Operand.tmp 100, Operand.tmp 101, Operand.tmp 102, Operand.tmp 103], argTypes := #[34, 22, 24, 3] }, type := 22, pos := "law.go:93", after := #[{ on := 0, ground := Ground.data }, { on := 1, ground := Ground.data }, { on := 2, ground := Ground.data }, { on := 3, ground := Ground.data }], guard := none }) rfl (fun K hK => ?_) ?_
                        go_simp; refine (lead_walk S q m hSz.out (by omega) (by omega) _).mono ?_; rintro e wo ⟨rfl, bo⟩; have BO := hid bo; clear bo
                        refine hK.out _ _ (by first | exact hHeld.trans (BO.out.mono hHeld.size) | exact BO.out) (fun hHeld => ?_)
                        clear hK K
                        (try simp only [List.setIfInBounds_toArray, List.set_cons_zero, List.set_cons_succ])
                        refine wpAnyH_take (i := 9) (oi := { dst := some 109, op := Op.binOp BinOp.neq 22 (Operand.tmp 104) (Operand.tmp 108) 22, type := 4, pos := "law.go:93", after := #[{ on := 4, ground := Ground.data }, { on := 8, ground := Ground.data }], guard := none }) (v := ?v6) rfl (by kernel_rfl) (by kernel_rfl) (by kernel_rfl) (fun _ _ _ h => h) (Or.inl ⟨by rfl, ?hy6⟩) hHeld ?_
                        case hy6 => (intro w hSw; (try dsimp only at hSw); go_simp; (try with_reducible rfl))
                        (try simp only [Act.put, List.setIfInBounds_toArray, List.set_cons_zero, List.set_cons_succ])
                        refine wpAnyH_done (by kernel_rfl) ?_ _
                        rotate_left
                        exact AllReadyH.nil

                        all_goals
                          have BF := hid (HBL.out.trans (hHeld.mono HBL.out.size))
                          clear e1 e2 hHeld
                          go_wp2
                          go_roundw
                          case rel => exact ⟨j + 1, b, by omega, by go_num, rfl, hfit', BF.out⟩
                          case measure => simp [intOf]; omega
                      · rw [decide_eq_false heq] at e2
                        have hfit' := hid (show (false = true) ↔ ∀ l', l' < j + 1 → leadN (K l').1 m S = (K l').2 from by
                          constructor
                          · intro h; cases h
                          · intro h; exfalso; apply heq; have := h j (by omega); rw [HKj.out] at this; exact this)
                        clear heq
                        go_upto_region 25 with (fail)
                        refine wp_region_held_drew (S := fun w' => Below wr.heap.size wr w') (by kernel_rfl) ((Below.refl _ _).drew) (fun hHeld => ?_)
                        try simp only [List.size_toArray, List.length_cons, List.length_nil, Nat.reduceAdd, Array.replicate_succ, Array.replicate_zero, List.push_toArray, List.nil_append, List.cons_append]
                        refine' wpAnyH_take (i := 0) (oi := { dst := some 100, op := Op.load 34 (Operand.tmp 9), type := 34, pos := "law.go:93", after := #[], guard := none }) (v := _) rfl (by kernel_rfl) (by kernel_rfl) (by kernel_rfl) (fun _ _ _ h => h) (yieldsIf_load_mid (by rfl) _ _ rfl T0 0 rfl (nums .u32 (H0 ++ K0)) _ (fun _ h => range_keep h RT.out) Tryd.underlying34 rfl hiT.out) hHeld ?_
                        (try simp only [Act.put, List.setIfInBounds_toArray, List.set_cons_zero, List.set_cons_succ])
                        refine' wpAnyH_take (i := 1) (oi := { dst := some 101, op := Op.load 22 (Operand.tmp 15), type := 22, pos := "law.go:93", after := #[], guard := none }) (v := _) rfl (by kernel_rfl) (by kernel_rfl) (by kernel_rfl) (fun _ _ _ h => h) (yieldsIf_load_mid (by rfl) _ _ rfl V 0 rfl (nums .u8 S) _ (fun _ h => range_keep h RV.out) un32 rfl hiS.out) hHeld ?_
                        (try simp only [Act.put, List.setIfInBounds_toArray, List.set_cons_zero, List.set_cons_succ])
                        refine wpAnyH_take (i := 2) (oi := { dst := some 102, op := Op.move (Operand.tmp 20), type := 24, pos := "law.go:93", after := #[], guard := none }) (v := ?vb1) rfl (by kernel_rfl) (by kernel_rfl) (by kernel_rfl) (fun _ _ _ h => h) (Or.inl ⟨by rfl, ?hyb1⟩) hHeld ?_
                        case hyb1 => (intro w hSw; (try dsimp only at hSw); go_simp; (try with_reducible rfl))
                        (try simp only [Act.put, List.setIfInBounds_toArray, List.set_cons_zero, List.set_cons_succ])
                        refine wpAnyH_take (i := 3) (oi := { dst := some 103, op := Op.move (Operand.tmp 16), type := 3, pos := "law.go:93", after := #[], guard := none }) (v := ?vb2) rfl (by kernel_rfl) (by kernel_rfl) (by kernel_rfl) (fun _ _ _ h => h) (Or.inl ⟨by rfl, ?hyb2⟩) hHeld ?_
                        case hyb2 => (intro w hSw; (try dsimp only at hSw); go_simp; (try with_reducible rfl))
                        (try simp only [Act.put, List.setIfInBounds_toArray, List.set_cons_zero, List.set_cons_succ])
                        refine wpAnyH_take (i := 5) (oi := { dst := some 105, op := Op.move (Operand.tmp 11), type := 48, pos := "law.go:93", after := #[], guard := none }) (v := ?vb3) rfl (by kernel_rfl) (by kernel_rfl) (by kernel_rfl) (fun _ _ _ h => h) (Or.inl ⟨by rfl, ?hyb3⟩) hHeld ?_
                        case hyb3 => (intro w hSw; (try dsimp only at hSw); go_simp; (try with_reducible rfl))
                        (try simp only [Act.put, List.setIfInBounds_toArray, List.set_cons_zero, List.set_cons_succ])
                        refine wpAnyH_take (i := 6) (oi := { dst := some 106, op := Op.move (Operand.tmp 19), type := 3, pos := "law.go:93", after := #[], guard := none }) (v := ?vb4) rfl (by kernel_rfl) (by kernel_rfl) (by kernel_rfl) (fun _ _ _ h => h) (Or.inl ⟨by rfl, ?hyb4⟩) hHeld ?_
                        case hyb4 => (intro w hSw; (try dsimp only at hSw); go_simp; (try with_reducible rfl))
                        (try simp only [Act.put, List.setIfInBounds_toArray, List.set_cons_zero, List.set_cons_succ])
                        refine wpAnyH_take (i := 7) (oi := { dst := some 107, op := Op.indexAddr 48 (Operand.tmp 105) (Operand.tmp 106), type := 0, pos := "law.go:93", after := #[{ on := 5, ground := Ground.data }, { on := 6, ground := Ground.data }], guard := none }) (v := ?vb5) rfl (by kernel_rfl) (by kernel_rfl) (by kernel_rfl) (fun _ _ _ h => h) (Or.inl ⟨by rfl, ?hyb5⟩) hHeld ?_
                        case hyb5 => (intro w hSw; (try dsimp only at hSw); go_simp; (try with_reducible rfl))
                        (try simp only [Act.put, List.setIfInBounds_toArray, List.set_cons_zero, List.set_cons_succ])
                        refine' wpAnyH_take (i := 8) (oi := { dst := some 108, op := Op.load 22 (Operand.tmp 107), type := 22, pos := "law.go:93", after := #[{ on := 7, ground := Ground.data }], guard := none }) (v := _) rfl (by kernel_rfl) (by kernel_rfl) (by kernel_rfl) (fun _ _ _ h => h) (yieldsIf_load_mid (by rfl) _ _ rfl b5 (o5 + l * 32) rfl (nums .u8 X) _ (fun _ h => range_keep h RX.out) un32 rfl hiX.out) hHeld ?_
                        (try simp only [Act.put, List.setIfInBounds_toArray, List.set_cons_zero, List.set_cons_succ])
                        refine wpAnyH_ready (rs := [4]) (by kernel_rfl) (by simp) ?_
                        refine AllReadyH.cons (o := { dst := some 104, op := Op.call { callee := Callee.value (Operand.func 10), args := #[Operand.tmp 100, Operand.tmp 101, Operand.tmp 102, Operand.tmp 103], argTypes := #[34, 22, 24, 3] }, type := 22, pos := "law.go:93", after := #[{ on := 0, ground := Ground.data }, { on := 1, ground := Ground.data }, { on := 2, ground := Ground.data }, { on := 3, ground := Ground.data }], guard := none }) rfl (fun K hK => ?_) ?_
                        go_simp; refine (lead_walk S q m hSz.out (by omega) (by omega) _).mono ?_; rintro e wo ⟨rfl, bo⟩; have BO := hid bo; clear bo
                        refine hK.out _ _ (by first | exact hHeld.trans (BO.out.mono hHeld.size) | exact BO.out) (fun hHeld => ?_)
                        clear hK K
                        (try simp only [List.setIfInBounds_toArray, List.set_cons_zero, List.set_cons_succ])
                        refine wpAnyH_take (i := 9) (oi := { dst := some 109, op := Op.binOp BinOp.neq 22 (Operand.tmp 104) (Operand.tmp 108) 22, type := 4, pos := "law.go:93", after := #[{ on := 4, ground := Ground.data }, { on := 8, ground := Ground.data }], guard := none }) (v := ?vb6) rfl (by kernel_rfl) (by kernel_rfl) (by kernel_rfl) (fun _ _ _ h => h) (Or.inl ⟨by rfl, ?hyb6⟩) hHeld ?_
                        case hyb6 => (intro w hSw; (try dsimp only at hSw); go_simp; (try with_reducible rfl))
                        (try simp only [Act.put, List.setIfInBounds_toArray, List.set_cons_zero, List.set_cons_succ])
                        refine wpAnyH_done (by kernel_rfl) ?_ _
                        rotate_left
                        exact AllReadyH.nil

                        all_goals
                          have BF := hid (HBL.out.trans (hHeld.mono HBL.out.size))
                          clear e1 e2 hHeld
                          go_wp2
                          go_roundw
                          case rel => exact ⟨j + 1, false, by omega, by go_num, rfl, hfit', BF.out⟩
                          case measure => simp [intOf]; omega
                    · have t6 : ((nz q : Int) == (j : Int)) = false := by rw [beq_eq_false_iff_ne]; omega
                      have hno' := hid (show ∀ l', l ≤ l' → l' < np → nz (281474976710655 - l') ≠ j from fun l' h1 h2 => by
                        by_cases hll : l' = l
                        · subst hll; rw [← HQ2.out]; exact hnz
                        · exact hno.out l' (by omega) h2)
                      clear hnz hno
                      go_wp2
                      go_roundw
                      case rel => exact ⟨l, by omega, by go_num, rfl, hno', HBL.out⟩
                      case measure => simp [intOf]
                  · exfalso
                    obtain ⟨l, hl1, hl2⟩ := nz_ahead (n := np) (i := j) (by omega) (by rw [← HPP.out, ← HM.out]; exact hjm)
                    exact hno.out l (by omega) hl1 hl2
              · obtain rfl : m = j := by omega
                have hRV := row_range (heap_keep HVz.out HBL.out)
                have HCr := hid (HCz.out.below HBL.out)
                have HFr := hid (HFz.out.trans (Far.of HBL.out))
                have HOr := hid (own_below HOz.out HBL.out)
                have HBr2 := hid (HBz.out.trans (HBL.out.mono hPz))
                have HVr := hid (heap_keep HVz.out HBL.out)
                have hKn : KPf PS np = K := HK.out.symm
                have nzz : nz (281474976710655 - np) = m := by rw [← HPP.out, ← HM.out]
                have NZZ := hid nzz
                have hzi : ((Tryd.prog.info? 22).bind (·.zero)).isSome = true := by kernel_rfl
                have hi32 : (Tryd.prog.info? 22).map (·.size) = some 32 := by kernel_rfl
                have hz32 := hid (show (nums .u8 S).toArray.size = 32 by simp [hSz.out.1])
                have hiS' := infoHol hSz.out
                have HKN := hid hKn
                clear HBL nzz hKn hj hjm
                go_wp2_with (refine wpList_load_mid rfl _ _ rfl V 0 rfl (nums .u8 S) _ hRV un32 rfl hiS.out ?_)
                refine (put_walk cb np K S hSz.out (by omega) _ HCr.out (HT.out.below (hP ▸ HBr2.out)) (H6.out.below (hP ▸ HBr2.out))).mono ?_
                rintro e wp ⟨hgood, hbad, fp⟩
                rw [NZZ.out] at hgood hbad
                have HFp := hid (HFr.out.trans fp)
                have HOp := hid (Far.own HOr.out fp (fun e => by have := (HOr.out.lt _ e).1; omega))
                have HVp := hid (heap_far HVr.out fp (by omega))
                have hRVp := row_range HVp.out
                have hBp : B ≤ wp.heap.size := by have := HFp.out.size; have := HB.out; omega
                clear fp hRV HCr HFr HOr HVr
                by_cases hok : okP K m S
                · obtain ⟨rfl, hcp⟩ := hgood hok
                  obtain rfl : b = true := hfit.out.2 (fun l hl => hok l hl)
                  have e0 := HNP.out
                  have HCp := hid (show ChAt wp cb (KPf (PS ++ [S]) (PS.length + 1)) (np + 1) by
                    rw [kpf_snoc, ← e0, NZZ.out, HKN.out]; exact hcp)
                  have hnlt : np < 4294967296 := by omega
                  clear hgood hbad hcp hok hfit e0
                  go_wp2_with (first | (refine wpList_load_mid rfl _ _ rfl V 0 rfl (nums .u8 S) _ hRVp un32 rfl hiS.out ?_) | (refine wpList_lit1 rfl _ _ _ rfl rfl Tryd.underlying48 hi32 hzi hz32.out (by decide) (by decide) ?_) | (at_builtin; refine wpList_push rfl _ _ 48 rfl tyHs B HOp.out rfl rfl hz32.out (one32' S) hnlt (by decide) hBp ?_))
                  intro v4 w4' own4 b4 hs4 _
                  have HO4 := hid (show w4'.ownsRow B 22 32 v4 (PS ++ [S]).length (hcells (PS ++ [S])) by
                    have e1 : (PS ++ [S]).length = np + 1 := by rw [List.length_append, HNP.out]; rfl
                    have e2 : hcells (PS ++ [S]) = hcells PS ++ (nums .u8 S).toArray.toList := by simp [hcells]
                    rw [e1, e2]; exact own4)
                  have b4' : Below w4.heap.size wp w4' := HB.out ▸ b4
                  have HF4 := hid (HFp.out.low b4')
                  have HC4 := hid (show ChAt w4' cb (KPf (PS ++ [S]) (PS.length + 1)) (np + 1) by
                    obtain ⟨cs, h1, h2⟩ := HCp.out.st
                    exact ⟨cs, (b4.block cb hcbw).trans h1, h2⟩)
                  have hPH4 := hid (show ∀ q ∈ PS ++ [S], H32 q from fun q hq => by
                    rcases List.mem_append.1 hq with h | h
                    · exact hPH.out q h
                    · rw [List.mem_singleton.1 h]; exact hSz.out)
                  obtain ⟨a4, c4, rfl, _⟩ := Rd.of_owns HO4.out
                  have hl4 := hid (show (PS ++ [S]).length = np + 1 by rw [List.length_append, HNP.out]; rfl)
                  clear own4 b4 hs4 b4' HFp HOp HVp hRVp HCp
                  obtain ⟨n1, hn1⟩ : ∃ n1, n1 = np + 1 := ⟨_, rfl⟩
                  rw [← hn1] at hl4 HC4
                  have HN1 := hid hn1
                  have hn31 : n1 ≤ 31 := by omega
                  rw [hl4.out]
                  clear hn1
                  go_wp2_with fail
                  refine (count_walk n1 cb _ _ HC4.out).mono ?_
                  rintro e w8 ⟨rfl, rfl⟩
                  go_wp2
                  go_roundw
                  case rel => exact ⟨i + 1, PS ++ [S], _, by omega, by go_num, rfl, by rw [hl4.out, HN1.out]; omega, hPH4, by rw [hl4.out]; exact hl4.out ▸ HO4, by have h5 := HC4.out; rw [← HNP.out, ← HN1.out] at h5; rw [hl4.out]; exact h5, HF4⟩
                  case measure => simp [intOf]; omega
                · obtain ⟨rfl, hcp⟩ := hbad hok
                  have hb : b = false := by
                    cases b
                    · rfl
                    · exact absurd (fun l hl => hfit.out.1 rfl l hl) hok
                  subst hb
                  have HCp := hid hcp
                  clear hgood hbad hcp hok hfit
                  go_wp2_with fail
                  refine (count_walk np cb _ _ HCp.out).mono ?_
                  rintro e w8 ⟨rfl, rfl⟩
                  go_wp2
                  go_roundw
                  case rel => exact ⟨i + 1, PS, _, by omega, by go_num, rfl, by rw [← HNP.out]; omega, hPH, by rw [← HNP.out]; exact HOp, by rw [← HNP.out, HKN.out]; exact HCp, HFp⟩
                  case measure => simp [intOf]; omega
          · by_cases h1 : z % 4 = 1
            · have t3 : (z % 4 == 1) = true := by rw [beq_iff_eq]; exact h1
              obtain rfl : on = 0 := by omega
              have HVz := HVy
              have HCz := HCy
              have HFz := HFy
              have HOz := HOy
              have hSz := hSo
              obtain ⟨wz, hwz⟩ : ∃ wz, wz = wy := ⟨_, rfl⟩
              subst hwz
              clear HVy HCy HFy HOy hSo h1 hsel
              go_upto_region 15 with (fail)
              clear t3 esel
              go_wp2_with fail
              refine (noughts_walk p (by omega) _).mono ?_
              rintro e wz ⟨rfl, rfl⟩
              obtain ⟨m, hm⟩ : ∃ m, m = nz p := ⟨_, rfl⟩
              have hm48 : m ≤ 48 := by rw [hm]; exact nz_le p
              rw [← hm]
              have HM := hid hm
              obtain ⟨K, hK⟩ : ∃ K, K = KPf PS np := ⟨_, rfl⟩
              rw [← hK] at HCz
              have HK := hid hK
              have HBz := hid (show Below P w wz from B4.out.trans (HFz.out.below (by omega) (by have := HB.out; omega)))
              have HVPz := hid (heap_far VP4.out HFz.out (by omega))
              have HVTz := hid (heap_far VT4.out HFz.out (by omega))
              have hiS := hid (infoHol hSz.out)
              have hPz : P ≤ wz.heap.size := by have := HBz.out.size; have := (Array.getElem?_eq_some_iff.1 HVPz.out).1; omega
              clear hm hK
              go_wp2
              go_loopw [17, 18] (fun x17 x18 wr => ∃ (j : Nat) (b : Bool), j ≤ m ∧ x18 = .int .i64 j ∧ x17 = .bool b ∧ Hid (b = true ↔ ∀ l, l < j → leadN (K l).1 m S = (K l).2) ∧ Below wz.heap.size wz wr) (fun _ x18 _ => m - (intOf x18).toNat)
              case atStart => exact ⟨0, true, by omega, rfl, rfl, hid (by simp), Below.refl _ _⟩
              case round =>
                obtain ⟨j, b, hj, rfl, rfl, hfit, hbl⟩ := hrel
                have HBL := hid hbl
                clear hbl
                by_cases hjm : j < m
                · go_wp2
                  go_loopw [17, 19] (fun x17 x19 wr => ∃ k : Nat, k ≤ np ∧ x19 = .int .i64 ((k : Int) - 1) ∧ x17 = .bool b ∧ Hid (∀ l, k ≤ l → l < np → nz (281474976710655 - l) ≠ j) ∧ Below wz.heap.size wz wr) (fun _ x19 _ => (intOf x19 + 1).toNat)
                  case atStart => exact ⟨np, by omega, rfl, rfl, hid (fun l h1 h2 => by omega), HBL.out⟩
                  case round =>
                    clear HBL
                    obtain ⟨k, hk, rfl, rfl, hno, hbl⟩ := hrel
                    have HBL := hid hbl
                    clear hbl
                    by_cases h0 : 0 < k
                    · obtain ⟨l, rfl⟩ : ∃ l, k = l + 1 := ⟨k - 1, by omega⟩
                      have ej : (((l + 1 : Nat) : Int) - 1) = (l : Int) := by omega
                      rw [ej]
                      obtain ⟨q, hq⟩ : ∃ q : Nat, q = 281474976710655 - l := ⟨_, rfl⟩
                      have eq' : 281474976710655 - (l : Int) = (q : Int) := by omega
                      have hq48 : q < 281474976710656 := by omega
                      have HQ2 := hid hq
                      clear ej hq
                      go_wp2_with fail
                      refine (noughts_walk q (by omega) _).mono ?_
                      rintro e wr ⟨rfl, rfl⟩
                      by_cases hnz : nz q = j
                      · have HKj := hid (show K j = (q, PS.getD l []) by
                          rw [HK.out, HQ2.out]
                          exact kpf_last PS np l j (by omega) (by rw [← HQ2.out]; exact hnz) (fun l' h1 h2 => hno.out l' (by omega) h2))
                        rw [hnz]
                        obtain ⟨ra, rc, hrv, hrd⟩ := Rd.of_owns (own_below HOz.out HBL.out)
                        have hHs : Hs wr ra np rc PS := ⟨hrd, HNP.out.symm, hPH.out⟩
                        obtain ⟨b5, o5, ha5, hr5, hX32⟩ := hHs.get (show l < np by omega)
                        simp only [Value.slice.injEq] at hrv
                        obtain ⟨rfl, _, rfl⟩ := hrv
                        subst ha5
                        obtain ⟨X, hX⟩ : ∃ X, X = PS.getD l [] := ⟨_, rfl⟩
                        rw [← hX] at HKj hr5 hX32
                        have RX := hid hr5
                        have hXo := hid hX32
                        have hiX := hid (infoHol hX32)
                        have RT := hid (row_range (L := nums .u32 (H0 ++ K0)) (heap_keep HVTz.out HBL.out))
                        have RV := hid (row_range (heap_keep HVz.out HBL.out))
                        have e1 : ∀ (op : BinOp) (x y : Operand) (w : World), (eqGuard op 22 x y (hv (leadN q m S)) (.agg (nums .u8 X).toArray)).run Tryd.prog w = .ok () w := guard_h32 (leadN q m S) X
                        have hlo : H32 (leadN q m S) := leadN_ok hSz.out
                        have e2 : ∀ w, (binOp .neq 22 (hv (leadN q m S)) (.agg (nums .u8 X).toArray)).run Tryd.prog w = .ok (.bool (!decide (leadN q m S = X))) w := fun w => run_neq_hv un32 w hlo.1 hXo.out.1 hlo.2 hXo.out.2
                        have hl32 : (l : Int) < (np : Int) := by omega
                        clear hX hr5 hX32 hHs hrd hlo hnz hno
                        by_cases heq : leadN q m S = X
                        · rw [decide_eq_true heq] at e2
                          have hfit' := hid (show b = true ↔ ∀ l', l' < j + 1 → leadN (K l').1 m S = (K l').2 from by
                            rw [hfit.out]
                            constructor
                            · intro h l' hl'
                              by_cases hlj : l' = j
                              · subst hlj; rw [HKj.out]; exact heq
                              · exact h l' (by omega)
                            · exact fun h l' hl' => h l' (by omega))
                          clear heq
                          go_upto_region 25 with (fail)
                          refine wp_region_held_drew (S := fun w' => Below wr.heap.size wr w') (by kernel_rfl) ((Below.refl _ _).drew) (fun hHeld => ?_)
                          try simp only [List.size_toArray, List.length_cons, List.length_nil, Nat.reduceAdd, Array.replicate_succ, Array.replicate_zero, List.push_toArray, List.nil_append, List.cons_append]
                          refine' wpAnyH_take (i := 0) (oi := { dst := some 100, op := Op.load 34 (Operand.tmp 9), type := 34, pos := "law.go:93", after := #[], guard := none }) (v := _) rfl (by kernel_rfl) (by kernel_rfl) (by kernel_rfl) (fun _ _ _ h => h) (yieldsIf_load_mid (by rfl) _ _ rfl T0 0 rfl (nums .u32 (H0 ++ K0)) _ (fun _ h => range_keep h RT.out) Tryd.underlying34 rfl hiT.out) hHeld ?_
                          (try simp only [Act.put, List.setIfInBounds_toArray, List.set_cons_zero, List.set_cons_succ])
                          refine' wpAnyH_take (i := 1) (oi := { dst := some 101, op := Op.load 22 (Operand.tmp 15), type := 22, pos := "law.go:93", after := #[], guard := none }) (v := _) rfl (by kernel_rfl) (by kernel_rfl) (by kernel_rfl) (fun _ _ _ h => h) (yieldsIf_load_mid (by rfl) _ _ rfl V 0 rfl (nums .u8 S) _ (fun _ h => range_keep h RV.out) un32 rfl hiS.out) hHeld ?_
                          (try simp only [Act.put, List.setIfInBounds_toArray, List.set_cons_zero, List.set_cons_succ])
                          refine wpAnyH_take (i := 2) (oi := { dst := some 102, op := Op.move (Operand.tmp 20), type := 24, pos := "law.go:93", after := #[], guard := none }) (v := ?vp1) rfl (by kernel_rfl) (by kernel_rfl) (by kernel_rfl) (fun _ _ _ h => h) (Or.inl ⟨by rfl, ?hyp1⟩) hHeld ?_
                          case hyp1 => (intro w hSw; (try dsimp only at hSw); go_simp; (try with_reducible rfl))
                          (try simp only [Act.put, List.setIfInBounds_toArray, List.set_cons_zero, List.set_cons_succ])
                          refine wpAnyH_take (i := 3) (oi := { dst := some 103, op := Op.move (Operand.tmp 16), type := 3, pos := "law.go:93", after := #[], guard := none }) (v := ?vp2) rfl (by kernel_rfl) (by kernel_rfl) (by kernel_rfl) (fun _ _ _ h => h) (Or.inl ⟨by rfl, ?hyp2⟩) hHeld ?_
                          case hyp2 => (intro w hSw; (try dsimp only at hSw); go_simp; (try with_reducible rfl))
                          (try simp only [Act.put, List.setIfInBounds_toArray, List.set_cons_zero, List.set_cons_succ])
                          refine wpAnyH_take (i := 5) (oi := { dst := some 105, op := Op.move (Operand.tmp 11), type := 48, pos := "law.go:93", after := #[], guard := none }) (v := ?vp3) rfl (by kernel_rfl) (by kernel_rfl) (by kernel_rfl) (fun _ _ _ h => h) (Or.inl ⟨by rfl, ?hyp3⟩) hHeld ?_
                          case hyp3 => (intro w hSw; (try dsimp only at hSw); go_simp; (try with_reducible rfl))
                          (try simp only [Act.put, List.setIfInBounds_toArray, List.set_cons_zero, List.set_cons_succ])
                          refine wpAnyH_take (i := 6) (oi := { dst := some 106, op := Op.move (Operand.tmp 19), type := 3, pos := "law.go:93", after := #[], guard := none }) (v := ?vp4) rfl (by kernel_rfl) (by kernel_rfl) (by kernel_rfl) (fun _ _ _ h => h) (Or.inl ⟨by rfl, ?hyp4⟩) hHeld ?_
                          case hyp4 => (intro w hSw; (try dsimp only at hSw); go_simp; (try with_reducible rfl))
                          (try simp only [Act.put, List.setIfInBounds_toArray, List.set_cons_zero, List.set_cons_succ])
                          refine wpAnyH_take (i := 7) (oi := { dst := some 107, op := Op.indexAddr 48 (Operand.tmp 105) (Operand.tmp 106), type := 0, pos := "law.go:93", after := #[{ on := 5, ground := Ground.data }, { on := 6, ground := Ground.data }], guard := none }) (v := ?vp5) rfl (by kernel_rfl) (by kernel_rfl) (by kernel_rfl) (fun _ _ _ h => h) (Or.inl ⟨by rfl, ?hyp5⟩) hHeld ?_
                          case hyp5 => (intro w hSw; (try dsimp only at hSw); go_simp; (try with_reducible rfl))
                          (try simp only [Act.put, List.setIfInBounds_toArray, List.set_cons_zero, List.set_cons_succ])
                          refine' wpAnyH_take (i := 8) (oi := { dst := some 108, op := Op.load 22 (Operand.tmp 107), type := 22, pos := "law.go:93", after := #[{ on := 7, ground := Ground.data }], guard := none }) (v := _) rfl (by kernel_rfl) (by kernel_rfl) (by kernel_rfl) (fun _ _ _ h => h) (yieldsIf_load_mid (by rfl) _ _ rfl b5 (o5 + l * 32) rfl (nums .u8 X) _ (fun _ h => range_keep h RX.out) un32 rfl hiX.out) hHeld ?_
                          (try simp only [Act.put, List.setIfInBounds_toArray, List.set_cons_zero, List.set_cons_succ])
                          refine wpAnyH_ready (rs := [4]) (by kernel_rfl) (by simp) ?_
                          refine AllReadyH.cons (o := { dst := some 104, op := Op.call { callee := Callee.value (Operand.func 10), args := #[Operand.tmp 100, Operand.tmp 101, Operand.tmp 102, Operand.tmp 103], argTypes := #[34, 22, 24, 3] }, type := 22, pos := "law.go:93", after := #[{ on := 0, ground := Ground.data }, { on := 1, ground := Ground.data }, { on := 2, ground := Ground.data }, { on := 3, ground := Ground.data }], guard := none }) rfl (fun K hK => ?_) ?_
                          go_simp; refine (lead_walk S q m hSz.out (by omega) (by omega) _).mono ?_; rintro e wo ⟨rfl, bo⟩; have BO := hid bo; clear bo
                          refine hK.out _ _ (by first | exact hHeld.trans (BO.out.mono hHeld.size) | exact BO.out) (fun hHeld => ?_)
                          clear hK K
                          (try simp only [List.setIfInBounds_toArray, List.set_cons_zero, List.set_cons_succ])
                          refine wpAnyH_take (i := 9) (oi := { dst := some 109, op := Op.binOp BinOp.neq 22 (Operand.tmp 104) (Operand.tmp 108) 22, type := 4, pos := "law.go:93", after := #[{ on := 4, ground := Ground.data }, { on := 8, ground := Ground.data }], guard := none }) (v := ?vp6) rfl (by kernel_rfl) (by kernel_rfl) (by kernel_rfl) (fun _ _ _ h => h) (Or.inl ⟨by rfl, ?hyp6⟩) hHeld ?_
                          case hyp6 => (intro w hSw; (try dsimp only at hSw); go_simp; (try with_reducible rfl))
                          (try simp only [Act.put, List.setIfInBounds_toArray, List.set_cons_zero, List.set_cons_succ])
                          refine wpAnyH_done (by kernel_rfl) ?_ _
                          rotate_left
                          exact AllReadyH.nil

                          all_goals
                            have BF := hid (HBL.out.trans (hHeld.mono HBL.out.size))
                            clear e1 e2 hHeld
                            go_wp2
                            go_roundw
                            case rel => exact ⟨j + 1, b, by omega, by go_num, rfl, hfit', BF.out⟩
                            case measure => simp [intOf]; omega
                        · rw [decide_eq_false heq] at e2
                          have hfit' := hid (show (false = true) ↔ ∀ l', l' < j + 1 → leadN (K l').1 m S = (K l').2 from by
                            constructor
                            · intro h; cases h
                            · intro h; exfalso; apply heq; have := h j (by omega); rw [HKj.out] at this; exact this)
                          clear heq
                          go_upto_region 25 with (fail)
                          refine wp_region_held_drew (S := fun w' => Below wr.heap.size wr w') (by kernel_rfl) ((Below.refl _ _).drew) (fun hHeld => ?_)
                          try simp only [List.size_toArray, List.length_cons, List.length_nil, Nat.reduceAdd, Array.replicate_succ, Array.replicate_zero, List.push_toArray, List.nil_append, List.cons_append]
                          refine' wpAnyH_take (i := 0) (oi := { dst := some 100, op := Op.load 34 (Operand.tmp 9), type := 34, pos := "law.go:93", after := #[], guard := none }) (v := _) rfl (by kernel_rfl) (by kernel_rfl) (by kernel_rfl) (fun _ _ _ h => h) (yieldsIf_load_mid (by rfl) _ _ rfl T0 0 rfl (nums .u32 (H0 ++ K0)) _ (fun _ h => range_keep h RT.out) Tryd.underlying34 rfl hiT.out) hHeld ?_
                          (try simp only [Act.put, List.setIfInBounds_toArray, List.set_cons_zero, List.set_cons_succ])
                          refine' wpAnyH_take (i := 1) (oi := { dst := some 101, op := Op.load 22 (Operand.tmp 15), type := 22, pos := "law.go:93", after := #[], guard := none }) (v := _) rfl (by kernel_rfl) (by kernel_rfl) (by kernel_rfl) (fun _ _ _ h => h) (yieldsIf_load_mid (by rfl) _ _ rfl V 0 rfl (nums .u8 S) _ (fun _ h => range_keep h RV.out) un32 rfl hiS.out) hHeld ?_
                          (try simp only [Act.put, List.setIfInBounds_toArray, List.set_cons_zero, List.set_cons_succ])
                          refine wpAnyH_take (i := 2) (oi := { dst := some 102, op := Op.move (Operand.tmp 20), type := 24, pos := "law.go:93", after := #[], guard := none }) (v := ?vpb1) rfl (by kernel_rfl) (by kernel_rfl) (by kernel_rfl) (fun _ _ _ h => h) (Or.inl ⟨by rfl, ?hypb1⟩) hHeld ?_
                          case hypb1 => (intro w hSw; (try dsimp only at hSw); go_simp; (try with_reducible rfl))
                          (try simp only [Act.put, List.setIfInBounds_toArray, List.set_cons_zero, List.set_cons_succ])
                          refine wpAnyH_take (i := 3) (oi := { dst := some 103, op := Op.move (Operand.tmp 16), type := 3, pos := "law.go:93", after := #[], guard := none }) (v := ?vpb2) rfl (by kernel_rfl) (by kernel_rfl) (by kernel_rfl) (fun _ _ _ h => h) (Or.inl ⟨by rfl, ?hypb2⟩) hHeld ?_
                          case hypb2 => (intro w hSw; (try dsimp only at hSw); go_simp; (try with_reducible rfl))
                          (try simp only [Act.put, List.setIfInBounds_toArray, List.set_cons_zero, List.set_cons_succ])
                          refine wpAnyH_take (i := 5) (oi := { dst := some 105, op := Op.move (Operand.tmp 11), type := 48, pos := "law.go:93", after := #[], guard := none }) (v := ?vpb3) rfl (by kernel_rfl) (by kernel_rfl) (by kernel_rfl) (fun _ _ _ h => h) (Or.inl ⟨by rfl, ?hypb3⟩) hHeld ?_
                          case hypb3 => (intro w hSw; (try dsimp only at hSw); go_simp; (try with_reducible rfl))
                          (try simp only [Act.put, List.setIfInBounds_toArray, List.set_cons_zero, List.set_cons_succ])
                          refine wpAnyH_take (i := 6) (oi := { dst := some 106, op := Op.move (Operand.tmp 19), type := 3, pos := "law.go:93", after := #[], guard := none }) (v := ?vpb4) rfl (by kernel_rfl) (by kernel_rfl) (by kernel_rfl) (fun _ _ _ h => h) (Or.inl ⟨by rfl, ?hypb4⟩) hHeld ?_
                          case hypb4 => (intro w hSw; (try dsimp only at hSw); go_simp; (try with_reducible rfl))
                          (try simp only [Act.put, List.setIfInBounds_toArray, List.set_cons_zero, List.set_cons_succ])
                          refine wpAnyH_take (i := 7) (oi := { dst := some 107, op := Op.indexAddr 48 (Operand.tmp 105) (Operand.tmp 106), type := 0, pos := "law.go:93", after := #[{ on := 5, ground := Ground.data }, { on := 6, ground := Ground.data }], guard := none }) (v := ?vpb5) rfl (by kernel_rfl) (by kernel_rfl) (by kernel_rfl) (fun _ _ _ h => h) (Or.inl ⟨by rfl, ?hypb5⟩) hHeld ?_
                          case hypb5 => (intro w hSw; (try dsimp only at hSw); go_simp; (try with_reducible rfl))
                          (try simp only [Act.put, List.setIfInBounds_toArray, List.set_cons_zero, List.set_cons_succ])
                          refine' wpAnyH_take (i := 8) (oi := { dst := some 108, op := Op.load 22 (Operand.tmp 107), type := 22, pos := "law.go:93", after := #[{ on := 7, ground := Ground.data }], guard := none }) (v := _) rfl (by kernel_rfl) (by kernel_rfl) (by kernel_rfl) (fun _ _ _ h => h) (yieldsIf_load_mid (by rfl) _ _ rfl b5 (o5 + l * 32) rfl (nums .u8 X) _ (fun _ h => range_keep h RX.out) un32 rfl hiX.out) hHeld ?_
                          (try simp only [Act.put, List.setIfInBounds_toArray, List.set_cons_zero, List.set_cons_succ])
                          refine wpAnyH_ready (rs := [4]) (by kernel_rfl) (by simp) ?_
                          refine AllReadyH.cons (o := { dst := some 104, op := Op.call { callee := Callee.value (Operand.func 10), args := #[Operand.tmp 100, Operand.tmp 101, Operand.tmp 102, Operand.tmp 103], argTypes := #[34, 22, 24, 3] }, type := 22, pos := "law.go:93", after := #[{ on := 0, ground := Ground.data }, { on := 1, ground := Ground.data }, { on := 2, ground := Ground.data }, { on := 3, ground := Ground.data }], guard := none }) rfl (fun K hK => ?_) ?_
                          go_simp; refine (lead_walk S q m hSz.out (by omega) (by omega) _).mono ?_; rintro e wo ⟨rfl, bo⟩; have BO := hid bo; clear bo
                          refine hK.out _ _ (by first | exact hHeld.trans (BO.out.mono hHeld.size) | exact BO.out) (fun hHeld => ?_)
                          clear hK K
                          (try simp only [List.setIfInBounds_toArray, List.set_cons_zero, List.set_cons_succ])
                          refine wpAnyH_take (i := 9) (oi := { dst := some 109, op := Op.binOp BinOp.neq 22 (Operand.tmp 104) (Operand.tmp 108) 22, type := 4, pos := "law.go:93", after := #[{ on := 4, ground := Ground.data }, { on := 8, ground := Ground.data }], guard := none }) (v := ?vpb6) rfl (by kernel_rfl) (by kernel_rfl) (by kernel_rfl) (fun _ _ _ h => h) (Or.inl ⟨by rfl, ?hypb6⟩) hHeld ?_
                          case hypb6 => (intro w hSw; (try dsimp only at hSw); go_simp; (try with_reducible rfl))
                          (try simp only [Act.put, List.setIfInBounds_toArray, List.set_cons_zero, List.set_cons_succ])
                          refine wpAnyH_done (by kernel_rfl) ?_ _
                          rotate_left
                          exact AllReadyH.nil

                          all_goals
                            have BF := hid (HBL.out.trans (hHeld.mono HBL.out.size))
                            clear e1 e2 hHeld
                            go_wp2
                            go_roundw
                            case rel => exact ⟨j + 1, false, by omega, by go_num, rfl, hfit', BF.out⟩
                            case measure => simp [intOf]; omega
                      · have t6 : ((nz q : Int) == (j : Int)) = false := by rw [beq_eq_false_iff_ne]; omega
                        have hno' := hid (show ∀ l', l ≤ l' → l' < np → nz (281474976710655 - l') ≠ j from fun l' h1 h2 => by
                          by_cases hll : l' = l
                          · subst hll; rw [← HQ2.out]; exact hnz
                          · exact hno.out l' (by omega) h2)
                        clear hnz hno
                        go_wp2
                        go_roundw
                        case rel => exact ⟨l, by omega, by go_num, rfl, hno', HBL.out⟩
                        case measure => simp [intOf]
                    · exfalso
                      obtain ⟨l, hl1, hl2⟩ := nz_ahead (n := np) (i := j) (by omega) (by rw [← HPP.out, ← HM.out]; exact hjm)
                      exact hno.out l (by omega) hl1 hl2
                · obtain rfl : m = j := by omega
                  have hRV := row_range (heap_keep HVz.out HBL.out)
                  have HCr := hid (HCz.out.below HBL.out)
                  have HFr := hid (HFz.out.trans (Far.of HBL.out))
                  have HOr := hid (own_below HOz.out HBL.out)
                  have HBr2 := hid (HBz.out.trans (HBL.out.mono hPz))
                  have HVr := hid (heap_keep HVz.out HBL.out)
                  have hKn : KPf PS np = K := HK.out.symm
                  have nzz : nz (281474976710655 - np) = m := by rw [← HPP.out, ← HM.out]
                  have NZZ := hid nzz
                  have hzi : ((Tryd.prog.info? 22).bind (·.zero)).isSome = true := by kernel_rfl
                  have hi32 : (Tryd.prog.info? 22).map (·.size) = some 32 := by kernel_rfl
                  have hz32 := hid (show (nums .u8 S).toArray.size = 32 by simp [hSz.out.1])
                  have hiS' := infoHol hSz.out
                  have HKN := hid hKn
                  clear HBL nzz hKn hj hjm
                  go_wp2_with (refine wpList_load_mid rfl _ _ rfl V 0 rfl (nums .u8 S) _ hRV un32 rfl hiS.out ?_)
                  refine (put_walk cb np K S hSz.out (by omega) _ HCr.out (HT.out.below (hP ▸ HBr2.out)) (H6.out.below (hP ▸ HBr2.out))).mono ?_
                  rintro e wp ⟨hgood, hbad, fp⟩
                  rw [NZZ.out] at hgood hbad
                  have HFp := hid (HFr.out.trans fp)
                  have HOp := hid (Far.own HOr.out fp (fun e => by have := (HOr.out.lt _ e).1; omega))
                  have HVp := hid (heap_far HVr.out fp (by omega))
                  have hRVp := row_range HVp.out
                  have hBp : B ≤ wp.heap.size := by have := HFp.out.size; have := HB.out; omega
                  clear fp hRV HCr HFr HOr HVr
                  by_cases hok : okP K m S
                  · obtain ⟨rfl, hcp⟩ := hgood hok
                    obtain rfl : b = true := hfit.out.2 (fun l hl => hok l hl)
                    have e0 := HNP.out
                    have HCp := hid (show ChAt wp cb (KPf (PS ++ [S]) (PS.length + 1)) (np + 1) by
                      rw [kpf_snoc, ← e0, NZZ.out, HKN.out]; exact hcp)
                    have hnlt : np < 4294967296 := by omega
                    clear hgood hbad hcp hok hfit e0
                    go_wp2_with (first | (refine wpList_load_mid rfl _ _ rfl V 0 rfl (nums .u8 S) _ hRVp un32 rfl hiS.out ?_) | (refine wpList_lit1 rfl _ _ _ rfl rfl Tryd.underlying48 hi32 hzi hz32.out (by decide) (by decide) ?_) | (at_builtin; refine wpList_push rfl _ _ 48 rfl tyHs B HOp.out rfl rfl hz32.out (one32' S) hnlt (by decide) hBp ?_))
                    intro v4 w4' own4 b4 hs4 _
                    have HO4 := hid (show w4'.ownsRow B 22 32 v4 (PS ++ [S]).length (hcells (PS ++ [S])) by
                      have e1 : (PS ++ [S]).length = np + 1 := by rw [List.length_append, HNP.out]; rfl
                      have e2 : hcells (PS ++ [S]) = hcells PS ++ (nums .u8 S).toArray.toList := by simp [hcells]
                      rw [e1, e2]; exact own4)
                    have b4' : Below w4.heap.size wp w4' := HB.out ▸ b4
                    have HF4 := hid (HFp.out.low b4')
                    have HC4 := hid (show ChAt w4' cb (KPf (PS ++ [S]) (PS.length + 1)) (np + 1) by
                      obtain ⟨cs, h1, h2⟩ := HCp.out.st
                      exact ⟨cs, (b4.block cb hcbw).trans h1, h2⟩)
                    have hPH4 := hid (show ∀ q ∈ PS ++ [S], H32 q from fun q hq => by
                      rcases List.mem_append.1 hq with h | h
                      · exact hPH.out q h
                      · rw [List.mem_singleton.1 h]; exact hSz.out)
                    obtain ⟨a4, c4, rfl, _⟩ := Rd.of_owns HO4.out
                    have hl4 := hid (show (PS ++ [S]).length = np + 1 by rw [List.length_append, HNP.out]; rfl)
                    clear own4 b4 hs4 b4' HFp HOp HVp hRVp HCp
                    obtain ⟨n1, hn1⟩ : ∃ n1, n1 = np + 1 := ⟨_, rfl⟩
                    rw [← hn1] at hl4 HC4
                    have HN1 := hid hn1
                    have hn31 : n1 ≤ 31 := by omega
                    rw [hl4.out]
                    clear hn1
                    go_wp2_with fail
                    refine (count_walk n1 cb _ _ HC4.out).mono ?_
                    rintro e w8 ⟨rfl, rfl⟩
                    go_wp2
                    go_roundw
                    case rel => exact ⟨i + 1, PS ++ [S], _, by omega, by go_num, rfl, by rw [hl4.out, HN1.out]; omega, hPH4, by rw [hl4.out]; exact hl4.out ▸ HO4, by have h5 := HC4.out; rw [← HNP.out, ← HN1.out] at h5; rw [hl4.out]; exact h5, HF4⟩
                    case measure => simp [intOf]; omega
                  · obtain ⟨rfl, hcp⟩ := hbad hok
                    have hb : b = false := by
                      cases b
                      · rfl
                      · exact absurd (fun l hl => hfit.out.1 rfl l hl) hok
                    subst hb
                    have HCp := hid hcp
                    clear hgood hbad hcp hok hfit
                    go_wp2_with fail
                    refine (count_walk np cb _ _ HCp.out).mono ?_
                    rintro e w8 ⟨rfl, rfl⟩
                    go_wp2
                    go_roundw
                    case rel => exact ⟨i + 1, PS, _, by omega, by go_num, rfl, by rw [← HNP.out]; omega, hPH, by rw [← HNP.out]; exact HOp, by rw [← HNP.out, HKN.out]; exact HCp, HFp⟩
                    case measure => simp [intOf]; omega
            · have t3 : (z % 4 == 1) = false := by rw [beq_eq_false_iff_ne]; exact h1
              have HVz := HVy
              have HCz := HCy
              have HFz := HFy
              have HOz := HOy
              have hSz := hSo
              obtain ⟨wz, hwz⟩ : ∃ wz, wz = wy := ⟨_, rfl⟩
              subst hwz
              clear HVy HCy HFy HOy hSo h1 hsel
              go_upto_region 15 with (fail)
              clear t3 esel
              go_wp2_with fail
              refine (noughts_walk p (by omega) _).mono ?_
              rintro e wz ⟨rfl, rfl⟩
              obtain ⟨m, hm⟩ : ∃ m, m = nz p := ⟨_, rfl⟩
              have hm48 : m ≤ 48 := by rw [hm]; exact nz_le p
              rw [← hm]
              have HM := hid hm
              obtain ⟨K, hK⟩ : ∃ K, K = KPf PS np := ⟨_, rfl⟩
              rw [← hK] at HCz
              have HK := hid hK
              have HBz := hid (show Below P w wz from B4.out.trans (HFz.out.below (by omega) (by have := HB.out; omega)))
              have HVPz := hid (heap_far VP4.out HFz.out (by omega))
              have HVTz := hid (heap_far VT4.out HFz.out (by omega))
              have hiS := hid (infoHol hSz.out)
              have hPz : P ≤ wz.heap.size := by have := HBz.out.size; have := (Array.getElem?_eq_some_iff.1 HVPz.out).1; omega
              clear hm hK
              go_wp2
              go_loopw [17, 18] (fun x17 x18 wr => ∃ (j : Nat) (b : Bool), j ≤ m ∧ x18 = .int .i64 j ∧ x17 = .bool b ∧ Hid (b = true ↔ ∀ l, l < j → leadN (K l).1 m S = (K l).2) ∧ Below wz.heap.size wz wr) (fun _ x18 _ => m - (intOf x18).toNat)
              case atStart => exact ⟨0, true, by omega, rfl, rfl, hid (by simp), Below.refl _ _⟩
              case round =>
                obtain ⟨j, b, hj, rfl, rfl, hfit, hbl⟩ := hrel
                have HBL := hid hbl
                clear hbl
                by_cases hjm : j < m
                · go_wp2
                  go_loopw [17, 19] (fun x17 x19 wr => ∃ k : Nat, k ≤ np ∧ x19 = .int .i64 ((k : Int) - 1) ∧ x17 = .bool b ∧ Hid (∀ l, k ≤ l → l < np → nz (281474976710655 - l) ≠ j) ∧ Below wz.heap.size wz wr) (fun _ x19 _ => (intOf x19 + 1).toNat)
                  case atStart => exact ⟨np, by omega, rfl, rfl, hid (fun l h1 h2 => by omega), HBL.out⟩
                  case round =>
                    clear HBL
                    obtain ⟨k, hk, rfl, rfl, hno, hbl⟩ := hrel
                    have HBL := hid hbl
                    clear hbl
                    by_cases h0 : 0 < k
                    · obtain ⟨l, rfl⟩ : ∃ l, k = l + 1 := ⟨k - 1, by omega⟩
                      have ej : (((l + 1 : Nat) : Int) - 1) = (l : Int) := by omega
                      rw [ej]
                      obtain ⟨q, hq⟩ : ∃ q : Nat, q = 281474976710655 - l := ⟨_, rfl⟩
                      have eq' : 281474976710655 - (l : Int) = (q : Int) := by omega
                      have hq48 : q < 281474976710656 := by omega
                      have HQ2 := hid hq
                      clear ej hq
                      go_wp2_with fail
                      refine (noughts_walk q (by omega) _).mono ?_
                      rintro e wr ⟨rfl, rfl⟩
                      by_cases hnz : nz q = j
                      · have HKj := hid (show K j = (q, PS.getD l []) by
                          rw [HK.out, HQ2.out]
                          exact kpf_last PS np l j (by omega) (by rw [← HQ2.out]; exact hnz) (fun l' h1 h2 => hno.out l' (by omega) h2))
                        rw [hnz]
                        obtain ⟨ra, rc, hrv, hrd⟩ := Rd.of_owns (own_below HOz.out HBL.out)
                        have hHs : Hs wr ra np rc PS := ⟨hrd, HNP.out.symm, hPH.out⟩
                        obtain ⟨b5, o5, ha5, hr5, hX32⟩ := hHs.get (show l < np by omega)
                        simp only [Value.slice.injEq] at hrv
                        obtain ⟨rfl, _, rfl⟩ := hrv
                        subst ha5
                        obtain ⟨X, hX⟩ : ∃ X, X = PS.getD l [] := ⟨_, rfl⟩
                        rw [← hX] at HKj hr5 hX32
                        have RX := hid hr5
                        have hXo := hid hX32
                        have hiX := hid (infoHol hX32)
                        have RT := hid (row_range (L := nums .u32 (H0 ++ K0)) (heap_keep HVTz.out HBL.out))
                        have RV := hid (row_range (heap_keep HVz.out HBL.out))
                        have e1 : ∀ (op : BinOp) (x y : Operand) (w : World), (eqGuard op 22 x y (hv (leadN q m S)) (.agg (nums .u8 X).toArray)).run Tryd.prog w = .ok () w := guard_h32 (leadN q m S) X
                        have hlo : H32 (leadN q m S) := leadN_ok hSz.out
                        have e2 : ∀ w, (binOp .neq 22 (hv (leadN q m S)) (.agg (nums .u8 X).toArray)).run Tryd.prog w = .ok (.bool (!decide (leadN q m S = X))) w := fun w => run_neq_hv un32 w hlo.1 hXo.out.1 hlo.2 hXo.out.2
                        have hl32 : (l : Int) < (np : Int) := by omega
                        clear hX hr5 hX32 hHs hrd hlo hnz hno
                        by_cases heq : leadN q m S = X
                        · rw [decide_eq_true heq] at e2
                          have hfit' := hid (show b = true ↔ ∀ l', l' < j + 1 → leadN (K l').1 m S = (K l').2 from by
                            rw [hfit.out]
                            constructor
                            · intro h l' hl'
                              by_cases hlj : l' = j
                              · subst hlj; rw [HKj.out]; exact heq
                              · exact h l' (by omega)
                            · exact fun h l' hl' => h l' (by omega))
                          clear heq
                          go_upto_region 25 with (fail)
                          refine wp_region_held_drew (S := fun w' => Below wr.heap.size wr w') (by kernel_rfl) ((Below.refl _ _).drew) (fun hHeld => ?_)
                          try simp only [List.size_toArray, List.length_cons, List.length_nil, Nat.reduceAdd, Array.replicate_succ, Array.replicate_zero, List.push_toArray, List.nil_append, List.cons_append]
                          refine' wpAnyH_take (i := 0) (oi := { dst := some 100, op := Op.load 34 (Operand.tmp 9), type := 34, pos := "law.go:93", after := #[], guard := none }) (v := _) rfl (by kernel_rfl) (by kernel_rfl) (by kernel_rfl) (fun _ _ _ h => h) (yieldsIf_load_mid (by rfl) _ _ rfl T0 0 rfl (nums .u32 (H0 ++ K0)) _ (fun _ h => range_keep h RT.out) Tryd.underlying34 rfl hiT.out) hHeld ?_
                          (try simp only [Act.put, List.setIfInBounds_toArray, List.set_cons_zero, List.set_cons_succ])
                          refine' wpAnyH_take (i := 1) (oi := { dst := some 101, op := Op.load 22 (Operand.tmp 15), type := 22, pos := "law.go:93", after := #[], guard := none }) (v := _) rfl (by kernel_rfl) (by kernel_rfl) (by kernel_rfl) (fun _ _ _ h => h) (yieldsIf_load_mid (by rfl) _ _ rfl V 0 rfl (nums .u8 S) _ (fun _ h => range_keep h RV.out) un32 rfl hiS.out) hHeld ?_
                          (try simp only [Act.put, List.setIfInBounds_toArray, List.set_cons_zero, List.set_cons_succ])
                          refine wpAnyH_take (i := 2) (oi := { dst := some 102, op := Op.move (Operand.tmp 20), type := 24, pos := "law.go:93", after := #[], guard := none }) (v := ?vn1) rfl (by kernel_rfl) (by kernel_rfl) (by kernel_rfl) (fun _ _ _ h => h) (Or.inl ⟨by rfl, ?hyn1⟩) hHeld ?_
                          case hyn1 => (intro w hSw; (try dsimp only at hSw); go_simp; (try with_reducible rfl))
                          (try simp only [Act.put, List.setIfInBounds_toArray, List.set_cons_zero, List.set_cons_succ])
                          refine wpAnyH_take (i := 3) (oi := { dst := some 103, op := Op.move (Operand.tmp 16), type := 3, pos := "law.go:93", after := #[], guard := none }) (v := ?vn2) rfl (by kernel_rfl) (by kernel_rfl) (by kernel_rfl) (fun _ _ _ h => h) (Or.inl ⟨by rfl, ?hyn2⟩) hHeld ?_
                          case hyn2 => (intro w hSw; (try dsimp only at hSw); go_simp; (try with_reducible rfl))
                          (try simp only [Act.put, List.setIfInBounds_toArray, List.set_cons_zero, List.set_cons_succ])
                          refine wpAnyH_take (i := 5) (oi := { dst := some 105, op := Op.move (Operand.tmp 11), type := 48, pos := "law.go:93", after := #[], guard := none }) (v := ?vn3) rfl (by kernel_rfl) (by kernel_rfl) (by kernel_rfl) (fun _ _ _ h => h) (Or.inl ⟨by rfl, ?hyn3⟩) hHeld ?_
                          case hyn3 => (intro w hSw; (try dsimp only at hSw); go_simp; (try with_reducible rfl))
                          (try simp only [Act.put, List.setIfInBounds_toArray, List.set_cons_zero, List.set_cons_succ])
                          refine wpAnyH_take (i := 6) (oi := { dst := some 106, op := Op.move (Operand.tmp 19), type := 3, pos := "law.go:93", after := #[], guard := none }) (v := ?vn4) rfl (by kernel_rfl) (by kernel_rfl) (by kernel_rfl) (fun _ _ _ h => h) (Or.inl ⟨by rfl, ?hyn4⟩) hHeld ?_
                          case hyn4 => (intro w hSw; (try dsimp only at hSw); go_simp; (try with_reducible rfl))
                          (try simp only [Act.put, List.setIfInBounds_toArray, List.set_cons_zero, List.set_cons_succ])
                          refine wpAnyH_take (i := 7) (oi := { dst := some 107, op := Op.indexAddr 48 (Operand.tmp 105) (Operand.tmp 106), type := 0, pos := "law.go:93", after := #[{ on := 5, ground := Ground.data }, { on := 6, ground := Ground.data }], guard := none }) (v := ?vn5) rfl (by kernel_rfl) (by kernel_rfl) (by kernel_rfl) (fun _ _ _ h => h) (Or.inl ⟨by rfl, ?hyn5⟩) hHeld ?_
                          case hyn5 => (intro w hSw; (try dsimp only at hSw); go_simp; (try with_reducible rfl))
                          (try simp only [Act.put, List.setIfInBounds_toArray, List.set_cons_zero, List.set_cons_succ])
                          refine' wpAnyH_take (i := 8) (oi := { dst := some 108, op := Op.load 22 (Operand.tmp 107), type := 22, pos := "law.go:93", after := #[{ on := 7, ground := Ground.data }], guard := none }) (v := _) rfl (by kernel_rfl) (by kernel_rfl) (by kernel_rfl) (fun _ _ _ h => h) (yieldsIf_load_mid (by rfl) _ _ rfl b5 (o5 + l * 32) rfl (nums .u8 X) _ (fun _ h => range_keep h RX.out) un32 rfl hiX.out) hHeld ?_
                          (try simp only [Act.put, List.setIfInBounds_toArray, List.set_cons_zero, List.set_cons_succ])
                          refine wpAnyH_ready (rs := [4]) (by kernel_rfl) (by simp) ?_
                          refine AllReadyH.cons (o := { dst := some 104, op := Op.call { callee := Callee.value (Operand.func 10), args := #[Operand.tmp 100, Operand.tmp 101, Operand.tmp 102, Operand.tmp 103], argTypes := #[34, 22, 24, 3] }, type := 22, pos := "law.go:93", after := #[{ on := 0, ground := Ground.data }, { on := 1, ground := Ground.data }, { on := 2, ground := Ground.data }, { on := 3, ground := Ground.data }], guard := none }) rfl (fun K hK => ?_) ?_
                          go_simp; refine (lead_walk S q m hSz.out (by omega) (by omega) _).mono ?_; rintro e wo ⟨rfl, bo⟩; have BO := hid bo; clear bo
                          refine hK.out _ _ (by first | exact hHeld.trans (BO.out.mono hHeld.size) | exact BO.out) (fun hHeld => ?_)
                          clear hK K
                          (try simp only [List.setIfInBounds_toArray, List.set_cons_zero, List.set_cons_succ])
                          refine wpAnyH_take (i := 9) (oi := { dst := some 109, op := Op.binOp BinOp.neq 22 (Operand.tmp 104) (Operand.tmp 108) 22, type := 4, pos := "law.go:93", after := #[{ on := 4, ground := Ground.data }, { on := 8, ground := Ground.data }], guard := none }) (v := ?vn6) rfl (by kernel_rfl) (by kernel_rfl) (by kernel_rfl) (fun _ _ _ h => h) (Or.inl ⟨by rfl, ?hyn6⟩) hHeld ?_
                          case hyn6 => (intro w hSw; (try dsimp only at hSw); go_simp; (try with_reducible rfl))
                          (try simp only [Act.put, List.setIfInBounds_toArray, List.set_cons_zero, List.set_cons_succ])
                          refine wpAnyH_done (by kernel_rfl) ?_ _
                          rotate_left
                          exact AllReadyH.nil

                          all_goals
                            have BF := hid (HBL.out.trans (hHeld.mono HBL.out.size))
                            clear e1 e2 hHeld
                            go_wp2
                            go_roundw
                            case rel => exact ⟨j + 1, b, by omega, by go_num, rfl, hfit', BF.out⟩
                            case measure => simp [intOf]; omega
                        · rw [decide_eq_false heq] at e2
                          have hfit' := hid (show (false = true) ↔ ∀ l', l' < j + 1 → leadN (K l').1 m S = (K l').2 from by
                            constructor
                            · intro h; cases h
                            · intro h; exfalso; apply heq; have := h j (by omega); rw [HKj.out] at this; exact this)
                          clear heq
                          go_upto_region 25 with (fail)
                          refine wp_region_held_drew (S := fun w' => Below wr.heap.size wr w') (by kernel_rfl) ((Below.refl _ _).drew) (fun hHeld => ?_)
                          try simp only [List.size_toArray, List.length_cons, List.length_nil, Nat.reduceAdd, Array.replicate_succ, Array.replicate_zero, List.push_toArray, List.nil_append, List.cons_append]
                          refine' wpAnyH_take (i := 0) (oi := { dst := some 100, op := Op.load 34 (Operand.tmp 9), type := 34, pos := "law.go:93", after := #[], guard := none }) (v := _) rfl (by kernel_rfl) (by kernel_rfl) (by kernel_rfl) (fun _ _ _ h => h) (yieldsIf_load_mid (by rfl) _ _ rfl T0 0 rfl (nums .u32 (H0 ++ K0)) _ (fun _ h => range_keep h RT.out) Tryd.underlying34 rfl hiT.out) hHeld ?_
                          (try simp only [Act.put, List.setIfInBounds_toArray, List.set_cons_zero, List.set_cons_succ])
                          refine' wpAnyH_take (i := 1) (oi := { dst := some 101, op := Op.load 22 (Operand.tmp 15), type := 22, pos := "law.go:93", after := #[], guard := none }) (v := _) rfl (by kernel_rfl) (by kernel_rfl) (by kernel_rfl) (fun _ _ _ h => h) (yieldsIf_load_mid (by rfl) _ _ rfl V 0 rfl (nums .u8 S) _ (fun _ h => range_keep h RV.out) un32 rfl hiS.out) hHeld ?_
                          (try simp only [Act.put, List.setIfInBounds_toArray, List.set_cons_zero, List.set_cons_succ])
                          refine wpAnyH_take (i := 2) (oi := { dst := some 102, op := Op.move (Operand.tmp 20), type := 24, pos := "law.go:93", after := #[], guard := none }) (v := ?vnb1) rfl (by kernel_rfl) (by kernel_rfl) (by kernel_rfl) (fun _ _ _ h => h) (Or.inl ⟨by rfl, ?hynb1⟩) hHeld ?_
                          case hynb1 => (intro w hSw; (try dsimp only at hSw); go_simp; (try with_reducible rfl))
                          (try simp only [Act.put, List.setIfInBounds_toArray, List.set_cons_zero, List.set_cons_succ])
                          refine wpAnyH_take (i := 3) (oi := { dst := some 103, op := Op.move (Operand.tmp 16), type := 3, pos := "law.go:93", after := #[], guard := none }) (v := ?vnb2) rfl (by kernel_rfl) (by kernel_rfl) (by kernel_rfl) (fun _ _ _ h => h) (Or.inl ⟨by rfl, ?hynb2⟩) hHeld ?_
                          case hynb2 => (intro w hSw; (try dsimp only at hSw); go_simp; (try with_reducible rfl))
                          (try simp only [Act.put, List.setIfInBounds_toArray, List.set_cons_zero, List.set_cons_succ])
                          refine wpAnyH_take (i := 5) (oi := { dst := some 105, op := Op.move (Operand.tmp 11), type := 48, pos := "law.go:93", after := #[], guard := none }) (v := ?vnb3) rfl (by kernel_rfl) (by kernel_rfl) (by kernel_rfl) (fun _ _ _ h => h) (Or.inl ⟨by rfl, ?hynb3⟩) hHeld ?_
                          case hynb3 => (intro w hSw; (try dsimp only at hSw); go_simp; (try with_reducible rfl))
                          (try simp only [Act.put, List.setIfInBounds_toArray, List.set_cons_zero, List.set_cons_succ])
                          refine wpAnyH_take (i := 6) (oi := { dst := some 106, op := Op.move (Operand.tmp 19), type := 3, pos := "law.go:93", after := #[], guard := none }) (v := ?vnb4) rfl (by kernel_rfl) (by kernel_rfl) (by kernel_rfl) (fun _ _ _ h => h) (Or.inl ⟨by rfl, ?hynb4⟩) hHeld ?_
                          case hynb4 => (intro w hSw; (try dsimp only at hSw); go_simp; (try with_reducible rfl))
                          (try simp only [Act.put, List.setIfInBounds_toArray, List.set_cons_zero, List.set_cons_succ])
                          refine wpAnyH_take (i := 7) (oi := { dst := some 107, op := Op.indexAddr 48 (Operand.tmp 105) (Operand.tmp 106), type := 0, pos := "law.go:93", after := #[{ on := 5, ground := Ground.data }, { on := 6, ground := Ground.data }], guard := none }) (v := ?vnb5) rfl (by kernel_rfl) (by kernel_rfl) (by kernel_rfl) (fun _ _ _ h => h) (Or.inl ⟨by rfl, ?hynb5⟩) hHeld ?_
                          case hynb5 => (intro w hSw; (try dsimp only at hSw); go_simp; (try with_reducible rfl))
                          (try simp only [Act.put, List.setIfInBounds_toArray, List.set_cons_zero, List.set_cons_succ])
                          refine' wpAnyH_take (i := 8) (oi := { dst := some 108, op := Op.load 22 (Operand.tmp 107), type := 22, pos := "law.go:93", after := #[{ on := 7, ground := Ground.data }], guard := none }) (v := _) rfl (by kernel_rfl) (by kernel_rfl) (by kernel_rfl) (fun _ _ _ h => h) (yieldsIf_load_mid (by rfl) _ _ rfl b5 (o5 + l * 32) rfl (nums .u8 X) _ (fun _ h => range_keep h RX.out) un32 rfl hiX.out) hHeld ?_
                          (try simp only [Act.put, List.setIfInBounds_toArray, List.set_cons_zero, List.set_cons_succ])
                          refine wpAnyH_ready (rs := [4]) (by kernel_rfl) (by simp) ?_
                          refine AllReadyH.cons (o := { dst := some 104, op := Op.call { callee := Callee.value (Operand.func 10), args := #[Operand.tmp 100, Operand.tmp 101, Operand.tmp 102, Operand.tmp 103], argTypes := #[34, 22, 24, 3] }, type := 22, pos := "law.go:93", after := #[{ on := 0, ground := Ground.data }, { on := 1, ground := Ground.data }, { on := 2, ground := Ground.data }, { on := 3, ground := Ground.data }], guard := none }) rfl (fun K hK => ?_) ?_
                          go_simp; refine (lead_walk S q m hSz.out (by omega) (by omega) _).mono ?_; rintro e wo ⟨rfl, bo⟩; have BO := hid bo; clear bo
                          refine hK.out _ _ (by first | exact hHeld.trans (BO.out.mono hHeld.size) | exact BO.out) (fun hHeld => ?_)
                          clear hK K
                          (try simp only [List.setIfInBounds_toArray, List.set_cons_zero, List.set_cons_succ])
                          refine wpAnyH_take (i := 9) (oi := { dst := some 109, op := Op.binOp BinOp.neq 22 (Operand.tmp 104) (Operand.tmp 108) 22, type := 4, pos := "law.go:93", after := #[{ on := 4, ground := Ground.data }, { on := 8, ground := Ground.data }], guard := none }) (v := ?vnb6) rfl (by kernel_rfl) (by kernel_rfl) (by kernel_rfl) (fun _ _ _ h => h) (Or.inl ⟨by rfl, ?hynb6⟩) hHeld ?_
                          case hynb6 => (intro w hSw; (try dsimp only at hSw); go_simp; (try with_reducible rfl))
                          (try simp only [Act.put, List.setIfInBounds_toArray, List.set_cons_zero, List.set_cons_succ])
                          refine wpAnyH_done (by kernel_rfl) ?_ _
                          rotate_left
                          exact AllReadyH.nil

                          all_goals
                            have BF := hid (HBL.out.trans (hHeld.mono HBL.out.size))
                            clear e1 e2 hHeld
                            go_wp2
                            go_roundw
                            case rel => exact ⟨j + 1, false, by omega, by go_num, rfl, hfit', BF.out⟩
                            case measure => simp [intOf]; omega
                      · have t6 : ((nz q : Int) == (j : Int)) = false := by rw [beq_eq_false_iff_ne]; omega
                        have hno' := hid (show ∀ l', l ≤ l' → l' < np → nz (281474976710655 - l') ≠ j from fun l' h1 h2 => by
                          by_cases hll : l' = l
                          · subst hll; rw [← HQ2.out]; exact hnz
                          · exact hno.out l' (by omega) h2)
                        clear hnz hno
                        go_wp2
                        go_roundw
                        case rel => exact ⟨l, by omega, by go_num, rfl, hno', HBL.out⟩
                        case measure => simp [intOf]
                    · exfalso
                      obtain ⟨l, hl1, hl2⟩ := nz_ahead (n := np) (i := j) (by omega) (by rw [← HPP.out, ← HM.out]; exact hjm)
                      exact hno.out l (by omega) hl1 hl2
                · obtain rfl : m = j := by omega
                  have hRV := row_range (heap_keep HVz.out HBL.out)
                  have HCr := hid (HCz.out.below HBL.out)
                  have HFr := hid (HFz.out.trans (Far.of HBL.out))
                  have HOr := hid (own_below HOz.out HBL.out)
                  have HBr2 := hid (HBz.out.trans (HBL.out.mono hPz))
                  have HVr := hid (heap_keep HVz.out HBL.out)
                  have hKn : KPf PS np = K := HK.out.symm
                  have nzz : nz (281474976710655 - np) = m := by rw [← HPP.out, ← HM.out]
                  have NZZ := hid nzz
                  have hzi : ((Tryd.prog.info? 22).bind (·.zero)).isSome = true := by kernel_rfl
                  have hi32 : (Tryd.prog.info? 22).map (·.size) = some 32 := by kernel_rfl
                  have hz32 := hid (show (nums .u8 S).toArray.size = 32 by simp [hSz.out.1])
                  have hiS' := infoHol hSz.out
                  have HKN := hid hKn
                  clear HBL nzz hKn hj hjm
                  go_wp2_with (refine wpList_load_mid rfl _ _ rfl V 0 rfl (nums .u8 S) _ hRV un32 rfl hiS.out ?_)
                  refine (put_walk cb np K S hSz.out (by omega) _ HCr.out (HT.out.below (hP ▸ HBr2.out)) (H6.out.below (hP ▸ HBr2.out))).mono ?_
                  rintro e wp ⟨hgood, hbad, fp⟩
                  rw [NZZ.out] at hgood hbad
                  have HFp := hid (HFr.out.trans fp)
                  have HOp := hid (Far.own HOr.out fp (fun e => by have := (HOr.out.lt _ e).1; omega))
                  have HVp := hid (heap_far HVr.out fp (by omega))
                  have hRVp := row_range HVp.out
                  have hBp : B ≤ wp.heap.size := by have := HFp.out.size; have := HB.out; omega
                  clear fp hRV HCr HFr HOr HVr
                  by_cases hok : okP K m S
                  · obtain ⟨rfl, hcp⟩ := hgood hok
                    obtain rfl : b = true := hfit.out.2 (fun l hl => hok l hl)
                    have e0 := HNP.out
                    have HCp := hid (show ChAt wp cb (KPf (PS ++ [S]) (PS.length + 1)) (np + 1) by
                      rw [kpf_snoc, ← e0, NZZ.out, HKN.out]; exact hcp)
                    have hnlt : np < 4294967296 := by omega
                    clear hgood hbad hcp hok hfit e0
                    go_wp2_with (first | (refine wpList_load_mid rfl _ _ rfl V 0 rfl (nums .u8 S) _ hRVp un32 rfl hiS.out ?_) | (refine wpList_lit1 rfl _ _ _ rfl rfl Tryd.underlying48 hi32 hzi hz32.out (by decide) (by decide) ?_) | (at_builtin; refine wpList_push rfl _ _ 48 rfl tyHs B HOp.out rfl rfl hz32.out (one32' S) hnlt (by decide) hBp ?_))
                    intro v4 w4' own4 b4 hs4 _
                    have HO4 := hid (show w4'.ownsRow B 22 32 v4 (PS ++ [S]).length (hcells (PS ++ [S])) by
                      have e1 : (PS ++ [S]).length = np + 1 := by rw [List.length_append, HNP.out]; rfl
                      have e2 : hcells (PS ++ [S]) = hcells PS ++ (nums .u8 S).toArray.toList := by simp [hcells]
                      rw [e1, e2]; exact own4)
                    have b4' : Below w4.heap.size wp w4' := HB.out ▸ b4
                    have HF4 := hid (HFp.out.low b4')
                    have HC4 := hid (show ChAt w4' cb (KPf (PS ++ [S]) (PS.length + 1)) (np + 1) by
                      obtain ⟨cs, h1, h2⟩ := HCp.out.st
                      exact ⟨cs, (b4.block cb hcbw).trans h1, h2⟩)
                    have hPH4 := hid (show ∀ q ∈ PS ++ [S], H32 q from fun q hq => by
                      rcases List.mem_append.1 hq with h | h
                      · exact hPH.out q h
                      · rw [List.mem_singleton.1 h]; exact hSz.out)
                    obtain ⟨a4, c4, rfl, _⟩ := Rd.of_owns HO4.out
                    have hl4 := hid (show (PS ++ [S]).length = np + 1 by rw [List.length_append, HNP.out]; rfl)
                    clear own4 b4 hs4 b4' HFp HOp HVp hRVp HCp
                    obtain ⟨n1, hn1⟩ : ∃ n1, n1 = np + 1 := ⟨_, rfl⟩
                    rw [← hn1] at hl4 HC4
                    have HN1 := hid hn1
                    have hn31 : n1 ≤ 31 := by omega
                    rw [hl4.out]
                    clear hn1
                    go_wp2_with fail
                    refine (count_walk n1 cb _ _ HC4.out).mono ?_
                    rintro e w8 ⟨rfl, rfl⟩
                    go_wp2
                    go_roundw
                    case rel => exact ⟨i + 1, PS ++ [S], _, by omega, by go_num, rfl, by rw [hl4.out, HN1.out]; omega, hPH4, by rw [hl4.out]; exact hl4.out ▸ HO4, by have h5 := HC4.out; rw [← HNP.out, ← HN1.out] at h5; rw [hl4.out]; exact h5, HF4⟩
                    case measure => simp [intOf]; omega
                  · obtain ⟨rfl, hcp⟩ := hbad hok
                    have hb : b = false := by
                      cases b
                      · rfl
                      · exact absurd (fun l hl => hfit.out.1 rfl l hl) hok
                    subst hb
                    have HCp := hid hcp
                    clear hgood hbad hcp hok hfit
                    go_wp2_with fail
                    refine (count_walk np cb _ _ HCp.out).mono ?_
                    rintro e w8 ⟨rfl, rfl⟩
                    go_wp2
                    go_roundw
                    case rel => exact ⟨i + 1, PS, _, by omega, by go_num, rfl, by rw [← HNP.out]; omega, hPH, by rw [← HNP.out]; exact HOp, by rw [← HNP.out, HKN.out]; exact HCp, HFp⟩
                    case measure => simp [intOf]; omega
        · obtain rfl : wn = i := by omega
          obtain ⟨K, hK⟩ : ∃ K, K = KPf PS np := ⟨_, rfl⟩
          rw [← hK] at HC
          have HK := hid hK
          have HKo := hid (show ∀ j, j < 49 → H32 (K j).2 from fun j hj => (HC.out.ok j hj).2)
          clear hK hlt hi f1 f2 HRD VPr
          obtain ⟨wl, rfl⟩ : ∃ wl, wl = wr := ⟨_, rfl⟩
          have hPl : P ≤ wl.heap.size := by have := HBr.out.size; have := HF.out.size; omega
          go_wp2
          go_loopw [139] (fun x139 wr => ∃ i : Nat, i ≤ qn ∧ x139 = .int .i64 i ∧ Below wl.heap.size wl wr) (fun x139 _ => qn - (intOf x139).toNat)
          case atStart => exact ⟨0, by omega, rfl, Below.refl _ _⟩
          case round =>
            obtain ⟨i, hi, rfl, hbl⟩ := hrel
            have HLa := hid hbl
            have HCa := hid (HC.out.below hbl)
            have HFa := hid (HF.out.trans (Far.of hbl))
            have HBa := hid (HBr.out.trans (hbl.mono hPl))
            have HVTa := hid (heap_keep VTr.out hbl)
            have HOa := hid (own_below HOw.out hbl)
            clear hbl
            by_cases hlt : i < qn
            · have hBw : Below w.heap.size w wr := hP ▸ HBa.out
              obtain ⟨b6, o6, ha6, hc6⟩ := (HQ.out.below hBw).opened
              have hc6i := hc6 i hlt
              obtain rfl := ha6 (by omega)
              have hd6 : qs.getD i 0 < 18446744073709551616 := by
                have hil : i < qs.length := by have := HQ.out.len; omega
                rw [List.getD_eq_getElem?_getD, List.getElem?_eq_getElem hil]
                exact HQ64.out _ (List.getElem_mem hil)
              obtain ⟨q0, hq0⟩ : ∃ q0, q0 = qs.getD i 0 := ⟨_, rfl⟩
              rw [← hq0] at hc6i hd6
              clear hc6 hq0 hBw
              have ea := and31 q0 hd6
              by_cases hev : (i : Int) % 2 = 0
              · have e0 : bits .and .i64 (i : Int) 1 = (i : Int) % 2 := and1 (i : Int)
                have t3 : ((i : Int) % 2 == 0) = true := by rw [beq_iff_eq]; exact hev
                obtain ⟨y, hy⟩ : ∃ y, y = q0 % 32 := ⟨_, rfl⟩
                rw [← hy] at ea
                obtain ⟨p, hp⟩ : ∃ p : Nat, p = 281474976710655 - y := ⟨_, rfl⟩
                have ep : 281474976710655 - (y : Int) = (p : Int) := by omega
                have hp64 : p < 18446744073709551616 := by omega
                clear hy hp hev
                go_upto_region 40 with (fail)
                clear t3 e0 ea ep hc6i
                go_wp2_with fail
                refine (get_walk cb np p K hp64 _ HCa.out (HT.out.below (hP ▸ HBa.out))).mono ?_
                intro e wg r
                have hgb := r.1
                have HG := hid r.2
                have HFg := hid (HFa.out.trans (Far.of hgb))
                have HBg := hid (HBa.out.trans (hgb.mono (by have := HBa.out.size; omega)))
                have HVTg := hid (heap_keep HVTa.out hgb)
                have HOg := hid (own_below HOa.out hgb)
                have HLg := hid (bstep HLa.out hgb)
                clear r hgb HCa HFa HBa HVTa HOa HLa
                by_cases hout : 281474976710655 < p ∨ np ≤ 281474976710655 - p
                · have he : e = .returned (.tuple #[hv zero32, .bool false]) := by
                    rcases HG.out with ⟨i0, _, h1, h2, _⟩ | ⟨_, h⟩
                    · omega
                    · exact h
                  subst he
                  unfold hv
                  go_upto_region 41 with (refine wpList_store_row rfl _ _ _ rfl wg.heap.size (nums .u8 zero32).toArray rfl rfl _ _ (heap_alloc_new wg _) (infoHa zero32_ok) (sz32 zero32_ok _ rfl) (one32 zero32) ?_)
                  have LA := fun z => laid wg z (nums .u8 zero32).toArray 23
                  generalize hWW : World.setRow _ _ _ = wh
                  replace LA := hid (hWW ▸ LA _)
                  have HLh := hid (bstep HLg.out LA.out.2)
                  have rA := row_range LA.out.1
                  have HVA := hid LA.out.1
                  clear hWW LA
                  generalize wg.heap.size = VA at *
                  have e1 := eqz1
                  have e2 := eqz2
                  clear HVA HG HFg HBg HVTg HOg HLg
                  by_cases hb48 : 281474976710655 < p
                  · have t5 : decide ((p : Int) ≥ 281474976710656) = true := by rw [decide_eq_true_eq]; omega
                    clear hb48 hout
                    go_wp2_with (refine wpList_load_midG rfl _ _ rfl VA 0 rfl (nums .u8 zero32) _ rA unH rfl infoHlz ?_)
                    go_roundw
                    case rel => exact ⟨i + 1, by omega, by go_num, HLh.out⟩
                    case measure => simp [intOf]; omega
                  · have t5 : decide ((p : Int) ≥ 281474976710656) = false := by rw [decide_eq_false_iff_not]; omega
                    obtain ⟨d, hd⟩ : ∃ d : Nat, d = 281474976710655 - p := ⟨_, rfl⟩
                    have ed : 281474976710655 - (p : Int) = (d : Int) := by omega
                    have hd64 : d ≤ 281474976710655 := by omega
                    have t6 : decide ((d : Int) ≥ (np : Int)) = true := by rw [decide_eq_true_eq]; omega
                    have t7 : decide (d ≥ np) = true := by rw [decide_eq_true_eq]; omega
                    clear hb48 hout hd
                    go_wp2_with (refine wpList_load_midG rfl _ _ rfl VA 0 rfl (nums .u8 zero32) _ rA unH rfl infoHlz ?_)
                    go_roundw
                    case rel => exact ⟨i + 1, by omega, by go_num, HLh.out⟩
                    case measure => simp [intOf]; omega
                · have hin1 : p ≤ 281474976710655 := by omega
                  have hin2 : 281474976710655 - p < np := by omega
                  have hsp : ∃ (bo : Bool) (Y : List Nat), e = .returned (.tuple #[hv Y, .bool bo]) ∧ H32 Y ∧ Spec K np p bo Y := by
                    rcases HG.out with ⟨i0, hi0, _, _, hh, hno, he⟩ | ⟨hbad, he⟩
                    · exact ⟨true, _, he, leadN_ok (HKo.out i0 hi0), .inl ⟨rfl, i0, hi0, hh, hno, rfl⟩⟩
                    · refine ⟨false, _, he, zero32_ok, .inr ⟨rfl, ?_, rfl⟩⟩
                      rcases hbad with h | h | h
                      · omega
                      · omega
                      · exact h
                  obtain ⟨bo, Y, rfl, hYo, hsp⟩ := hsp
                  have HSP := hid hsp
                  have hYo := hid hYo
                  have hiY := hid (infoHl' hYo.out)
                  clear HG hout hsp
                  unfold hv
                  go_upto_region 41 with (refine wpList_store_row rfl _ _ _ rfl wg.heap.size (nums .u8 Y).toArray rfl rfl _ _ (heap_alloc_new wg _) (infoHa hYo.out) (sz32 hYo.out _ rfl) (one32 Y) ?_)
                  have LA := fun z => laid wg z (nums .u8 Y).toArray 23
                  generalize hWW : World.setRow _ _ _ = wh
                  replace LA := hid (hWW ▸ LA _)
                  have HFh := hid (HFg.out.trans (Far.of LA.out.2))
                  have HVTh := hid (heap_keep HVTg.out LA.out.2)
                  have HOh := hid (own_below HOg.out LA.out.2)
                  have HLh := hid (bstep HLg.out LA.out.2)
                  have hVAT := hid (show T0 < wg.heap.size from (Array.getElem?_eq_some_iff.1 HVTg.out).1)
                  clear HFg HBg HVTg HOg HLg
                  have HVA := hid LA.out.1
                  clear hWW LA
                  generalize wg.heap.size = VA at *
                  have t5 : decide ((p : Int) ≥ 281474976710656) = false := by rw [decide_eq_false_iff_not]; omega
                  obtain ⟨d, hd⟩ : ∃ d : Nat, d = 281474976710655 - p := ⟨_, rfl⟩
                  have ed : 281474976710655 - (p : Int) = (d : Int) := by omega
                  have t6 : decide ((d : Int) ≥ (np : Int)) = false := by rw [decide_eq_false_iff_not]; omega
                  have t7 : decide (d ≥ np) = false := by rw [decide_eq_false_iff_not]; omega
                  have hd64 : d ≤ 281474976710655 := by omega
                  clear hd
                  go_upto_region 45 with (refine wpList_store_row rfl _ _ _ rfl wh.heap.size (nums .u8 zero32).toArray rfl rfl _ _ (heap_alloc_new wh _) (infoHo zero32_ok) (sz32 zero32_ok _ rfl) (one32 zero32) ?_)
                  have LA := fun z => laid wh z (nums .u8 zero32).toArray 22
                  generalize hWW : World.setRow _ _ _ = wm
                  replace LA := hid (hWW ▸ LA _)
                  have HFm := hid (HFh.out.trans (Far.of LA.out.2))
                  have HVTm := hid (heap_keep HVTh.out LA.out.2)
                  have HOm := hid (own_below HOh.out LA.out.2)
                  have HLm := hid (bstep HLh.out LA.out.2)
                  have HVAm := hid (heap_keep HVA.out LA.out.2)
                  have hVAW : VA ≠ wh.heap.size := by have := (Array.getElem?_eq_some_iff.1 HVA.out).1; omega
                  have hTW : T0 ≠ wh.heap.size := by have := (Array.getElem?_eq_some_iff.1 HVTh.out).1; omega
                  have hOW := hid (show (Value.slice pa np pc).ownBlock ≠ some wh.heap.size from fun e => by have := (HOh.out.lt _ e).2; omega)
                  have hWl : wl.heap.size ≤ wh.heap.size := HLh.out.size
                  clear HFh HVTh HOh HLh HVA hVAT
                  have HW := hid LA.out.1
                  clear hWW LA
                  generalize wh.heap.size = W at *
                  clear t5 t6 t7 ed
                  go_wp2
                  go_loopw [27, 28] (fun x27 x28 wr => ∃ (n : Nat) (b : Bool) (X : List Nat), n ≤ 49 ∧ x28 = .int .i64 n ∧ x27 = .bool b ∧ Hid (Fnd K np p b X n) ∧ Hid (H32 X) ∧ Hid (wr.heap[W]? = some (.cells (nums .u8 X).toArray 22 (0, 0))) ∧ Hid (Far W wm wr)) (fun _ x28 _ => 49 - (intOf x28).toNat)
                  case atStart => exact ⟨0, false, zero32, by omega, rfl, rfl, hid (.inr ⟨rfl, fun j hj => by omega, rfl⟩), hid zero32_ok, HW, hid (Far.refl _ _)⟩
                  case round =>
                    clear HW
                    obtain ⟨n, b, X, hn, rfl, rfl, HFN, hXX, HW, HFW⟩ := hrel
                    by_cases hgo : b = false ∧ n < 49
                    · obtain ⟨rfl, hn49⟩ := hgo
                      have hno := hid (show ∀ j, j < n → ¬ hit K np p j from by
                        rcases HFN.out with ⟨h, _⟩ | ⟨_, h, _⟩
                        · cases h
                        · exact h)
                      have hXz := hid (show X = zero32 from by
                        rcases HFN.out with ⟨h, _⟩ | ⟨_, _, h⟩
                        · cases h
                        · exact h)
                      clear HFN
                      go_wp2
                      go_loopw [27, 29] (fun x27 x29 wr => ∃ k : Nat, k ≤ np ∧ x29 = .int .i64 ((k : Int) - 1) ∧ x27 = .bool false ∧ Hid (∀ l, k ≤ l → l < np → nz (281474976710655 - l) ≠ n) ∧ Hid (wr.heap[W]? = some (.cells (nums .u8 X).toArray 22 (0, 0))) ∧ Hid (Far W wm wr)) (fun _ x29 _ => (intOf x29 + 1).toNat)
                      case atStart => exact ⟨np, by omega, rfl, rfl, hid (fun l h1 h2 => by omega), HW, HFW⟩
                      case round =>
                        clear HW HFW
                        obtain ⟨k, hk, rfl, rfl, hnk, HW, HFW⟩ := hrel
                        by_cases h0 : 0 < k
                        · obtain ⟨l, rfl⟩ : ∃ l, k = l + 1 := ⟨k - 1, by omega⟩
                          have ej : (((l + 1 : Nat) : Int) - 1) = (l : Int) := by omega
                          rw [ej]
                          obtain ⟨q, hq⟩ : ∃ q : Nat, q = 281474976710655 - l := ⟨_, rfl⟩
                          have eq' : 281474976710655 - (l : Int) = (q : Int) := by omega
                          have hq48 : q < 281474976710656 := by omega
                          have HQ2 := hid hq
                          clear ej hq
                          go_wp2_with fail
                          refine (noughts_walk q (by omega) _).mono ?_
                          rintro e wr ⟨rfl, rfl⟩
                          by_cases hnz : nz q = n
                          · have HKn := hid (show K n = (q, PS.getD l []) by
                              rw [HK.out, HQ2.out]
                              exact kpf_last PS np l n (by omega) (by rw [← HQ2.out]; exact hnz) (fun l' h1 h2 => hnk.out l' (by omega) h2))
                            rw [hnz]
                            have hsh1 := hid (shr_int q n)
                            have hsh2 := hid (shr_int p n)
                            by_cases hdv : q / 2 ^ n = p / 2 ^ n
                            · have t8 : ((q : Int) / 2 ^ n == (p : Int) / 2 ^ n) = true := by rw [hsh1.out, hsh2.out, hdv]; simp
                              have hhit := hid (show hit K np p n from ⟨by rw [HKn.out]; exact hdv, by rw [HKn.out]; show 281474976710655 - q < np; rw [HQ2.out]; omega⟩)
                              obtain ⟨ra, rc, hrv, hrd⟩ := Rd.of_owns (Far.own HOm.out HFW.out hOW.out)
                              have hHs : Hs wr ra np rc PS := ⟨hrd, HNP.out.symm, hPH.out⟩
                              obtain ⟨b5, o5, ha5, hr5, hX32⟩ := hHs.get (show l < np by omega)
                              simp only [Value.slice.injEq] at hrv
                              obtain ⟨rfl, _, rfl⟩ := hrv
                              subst ha5
                              obtain ⟨X5, hX5⟩ : ∃ X5, X5 = PS.getD l [] := ⟨_, rfl⟩
                              rw [← hX5] at HKn hr5 hX32
                              have RX := hid hr5
                              have hXo := hid hX32
                              have hiX := hid (infoHol hX32)
                              have hbW := hid (show b5 ≠ W from fun e => hOW.out (by rw [e]; rfl))
                              have RT := hid (row_range (L := nums .u32 (H0 ++ K0)) (heap_far HVTm.out HFW.out hTW))
                              have hlo := hid (show H32 (leadN p n X5) from leadN_ok hX32)
                              have hzW := hid (show (nums .u8 X).toArray.size = (nums .u8 (leadN p n X5)).toArray.size by simp [hXX.out.1, hlo.out.1])
                              have hl32 : (l : Int) < (np : Int) := by omega
                              have hnew := hid (show Fnd K np p true (leadN p n X5) (n + 1) from .inl ⟨rfl, n, by omega, hhit.out, hno.out, by rw [HKn.out]⟩)
                              clear hX5 hr5 hX32 hHs hrd hnz hnk hdv
                              go_upto_region 55 with (fail)
                              clear t8
                              refine wp_region_held_drew (S := fun w' => Far W wr w') (by kernel_rfl) (Far.of ((Below.refl _ _).drew)) (fun hHeld => ?_)
                              try simp only [List.size_toArray, List.length_cons, List.length_nil, Nat.reduceAdd, Array.replicate_succ, Array.replicate_zero, List.push_toArray, List.nil_append, List.cons_append]
                              refine' wpAnyH_take (i := 0) (oi := { dst := some 204, op := Op.load 34 (Operand.tmp 9), type := 34, pos := "law.go:130", after := #[], guard := none }) (v := _) rfl (by kernel_rfl) (by kernel_rfl) (by kernel_rfl) (fun _ _ _ h => h) (yieldsIf_load_mid (by rfl) _ _ rfl T0 0 rfl (nums .u32 (H0 ++ K0)) _ (fun _ h => range_far h RT.out hTW) Tryd.underlying34 rfl hiT.out) hHeld ?_
                              (try simp only [Act.put, List.setIfInBounds_toArray, List.set_cons_zero, List.set_cons_succ])
                              refine wpAnyH_take (i := 1) (oi := { dst := some 205, op := Op.move (Operand.tmp 11), type := 48, pos := "law.go:130", after := #[], guard := none }) (v := ?vA1) rfl (by kernel_rfl) (by kernel_rfl) (by kernel_rfl) (fun _ _ _ h => h) (Or.inl ⟨by rfl, ?hyA1⟩) hHeld ?_
                              case hyA1 => (intro w hSw; (try dsimp only at hSw); go_simp; (try with_reducible rfl))
                              (try simp only [Act.put, List.setIfInBounds_toArray, List.set_cons_zero, List.set_cons_succ])
                              refine wpAnyH_take (i := 2) (oi := { dst := some 206, op := Op.move (Operand.tmp 29), type := 3, pos := "law.go:130", after := #[], guard := none }) (v := ?vA2) rfl (by kernel_rfl) (by kernel_rfl) (by kernel_rfl) (fun _ _ _ h => h) (Or.inl ⟨by rfl, ?hyA2⟩) hHeld ?_
                              case hyA2 => (intro w hSw; (try dsimp only at hSw); go_simp; (try with_reducible rfl))
                              (try simp only [Act.put, List.setIfInBounds_toArray, List.set_cons_zero, List.set_cons_succ])
                              refine wpAnyH_take (i := 3) (oi := { dst := some 207, op := Op.indexAddr 48 (Operand.tmp 205) (Operand.tmp 206), type := 0, pos := "law.go:130", after := #[{ on := 1, ground := Ground.data }, { on := 2, ground := Ground.data }], guard := none }) (v := ?vA3) rfl (by kernel_rfl) (by kernel_rfl) (by kernel_rfl) (fun _ _ _ h => h) (Or.inl ⟨by rfl, ?hyA3⟩) hHeld ?_
                              case hyA3 => (intro w hSw; (try dsimp only at hSw); go_simp; (try with_reducible rfl))
                              (try simp only [Act.put, List.setIfInBounds_toArray, List.set_cons_zero, List.set_cons_succ])
                              refine' wpAnyH_take (i := 4) (oi := { dst := some 208, op := Op.load 22 (Operand.tmp 207), type := 22, pos := "law.go:130", after := #[{ on := 3, ground := Ground.data }], guard := none }) (v := _) rfl (by kernel_rfl) (by kernel_rfl) (by kernel_rfl) (fun _ _ _ h => h) (yieldsIf_load_mid (by rfl) _ _ rfl b5 (o5 + l * 32) rfl (nums .u8 X5) _ (fun _ h => range_far h RX.out hbW.out) un32 rfl hiX.out) hHeld ?_
                              (try simp only [Act.put, List.setIfInBounds_toArray, List.set_cons_zero, List.set_cons_succ])
                              refine wpAnyH_take (i := 5) (oi := { dst := some 209, op := Op.move (Operand.tmp 23), type := 24, pos := "law.go:130", after := #[], guard := none }) (v := ?vA4) rfl (by kernel_rfl) (by kernel_rfl) (by kernel_rfl) (fun _ _ _ h => h) (Or.inl ⟨by rfl, ?hyA4⟩) hHeld ?_
                              case hyA4 => (intro w hSw; (try dsimp only at hSw); go_simp; (try with_reducible rfl))
                              (try simp only [Act.put, List.setIfInBounds_toArray, List.set_cons_zero, List.set_cons_succ])
                              refine wpAnyH_take (i := 6) (oi := { dst := some 210, op := Op.move (Operand.tmp 28), type := 3, pos := "law.go:130", after := #[], guard := none }) (v := ?vA5) rfl (by kernel_rfl) (by kernel_rfl) (by kernel_rfl) (fun _ _ _ h => h) (Or.inl ⟨by rfl, ?hyA5⟩) hHeld ?_
                              case hyA5 => (intro w hSw; (try dsimp only at hSw); go_simp; (try with_reducible rfl))
                              (try simp only [Act.put, List.setIfInBounds_toArray, List.set_cons_zero, List.set_cons_succ])
                              refine wpAnyH_ready (rs := [7]) (by kernel_rfl) (by simp) ?_
                              refine AllReadyH.cons (o := { dst := some 211, op := Op.call { callee := Callee.value (Operand.func 10), args := #[Operand.tmp 204, Operand.tmp 208, Operand.tmp 209, Operand.tmp 210], argTypes := #[34, 22, 24, 3] }, type := 22, pos := "law.go:130", after := #[{ on := 0, ground := Ground.data }, { on := 4, ground := Ground.data }, { on := 5, ground := Ground.data }, { on := 6, ground := Ground.data }], guard := none }) rfl (fun K hK => ?_) ?_
                              go_simp; refine (lead_walk X5 p n hXo.out (by omega) (by omega) _).mono ?_; rintro e wo ⟨rfl, bo2⟩; have BO := hid bo2; clear bo2
                              refine hK.out _ _ (hHeld.trans (Far.of BO.out)) (fun hHeld => ?_)
                              clear hK K
                              (try simp only [List.setIfInBounds_toArray, List.set_cons_zero, List.set_cons_succ])
                              refine wpAnyH_ready (rs := [8]) (by kernel_rfl) (by simp) ?_
                              refine AllReadyH.cons (o := { dst := none, op := Op.store 22 (Operand.tmp 26) (Operand.tmp 211), type := 0, pos := "law.go:130", after := #[{ on := 7, ground := Ground.data }, { on := 7, ground := Ground.chain }, { on := 0, ground := Ground.phase }, { on := 1, ground := Ground.phase }, { on := 2, ground := Ground.phase }, { on := 3, ground := Ground.phase }, { on := 4, ground := Ground.phase }, { on := 5, ground := Ground.phase }, { on := 6, ground := Ground.phase }, { on := 7, ground := Ground.phase }], guard := none }) rfl (fun K hK => ?_) ?_
                              rw [if_pos (by rfl)]; unfold hv; refine wp_store_row _ _ _ rfl W (nums .u8 (leadN p n X5)).toArray rfl rfl _ _ (heap_keep (heap_keep HW.out ((Below.refl _ _).drew)) BO.out) (infoHo hlo.out) hzW.out (one32 _) ?_
                              refine hK.out _ _ (hHeld.trans (far_row _ W _)) (fun hHeld => ?_)
                              clear hK K
                              (try simp only [List.setIfInBounds_toArray, List.set_cons_zero, List.set_cons_succ])
                              refine wpAnyH_done (by kernel_rfl) ?_ _
                              rotate_left
                              exact AllReadyH.nil
                              exact AllReadyH.nil

                              all_goals
                                have HW9 := hid (setRow_heap _ W _ (nums .u8 (leadN p n X5)).toArray _ _ (heap_keep (heap_keep HW.out ((Below.refl _ _).drew)) BO.out))
                                have HF9 := hid (HFW.out.trans hHeld)
                                clear hHeld
                                go_wp2
                                go_roundw
                                case rel => exact ⟨n + 1, true, _, by omega, by go_num, rfl, hnew, hlo, HW9, HF9⟩
                                case measure => simp [intOf]; omega
                            · have t8 : ((q : Int) / 2 ^ n == (p : Int) / 2 ^ n) = false := by rw [hsh1.out, hsh2.out]; exact beq_eq_false_iff_ne.2 (fun h => hdv (Int.ofNat.inj h))
                              have hnew := hid (show Fnd K np p false X (n + 1) from .inr ⟨rfl, fun j hj h => by
                                by_cases hjn : j = n
                                · subst hjn; have := h.1; rw [HKn.out] at this; exact hdv this
                                · exact hno.out j (by omega) h, hXz.out⟩)
                              clear hdv hnz hnk
                              go_wp2
                              go_roundw
                              case rel => exact ⟨n + 1, false, X, by omega, by go_num, rfl, hnew, hXX, HW, HFW⟩
                              case measure => simp [intOf]; omega
                          · have t6 : ((nz q : Int) == (n : Int)) = false := by rw [beq_eq_false_iff_ne]; omega
                            have hnk' := hid (show ∀ l', l ≤ l' → l' < np → nz (281474976710655 - l') ≠ n from fun l' h1 h2 => by
                              by_cases hll : l' = l
                              · subst hll; rw [← HQ2.out]; exact hnz
                              · exact hnk.out l' (by omega) h2)
                            clear hnz hnk
                            go_wp2
                            go_roundw
                            case rel => exact ⟨l, by omega, by go_num, rfl, hnk', HW, HFW⟩
                            case measure => simp [intOf]
                        · have hnew := hid (show Fnd K np p false X (n + 1) from .inr ⟨rfl, fun j hj h => by
                            by_cases hjn : j = n
                            · subst hjn
                              have h2 := h.2
                              rw [HK.out, kpf_none PS np j (fun l hl => hnk.out l (by omega) hl)] at h2
                              have e0 : (noneK j).1 = 0 := rfl
                              rw [e0] at h2
                              omega
                            · exact hno.out j (by omega) h, hXz.out⟩)
                          obtain rfl : k = 0 := by omega
                          clear hnk h0
                          go_wp2
                          go_roundw
                          case rel => exact ⟨n + 1, false, X, by omega, by go_num, rfl, hnew, hXX, HW, HFW⟩
                          case measure => simp [intOf]; omega
                    · have hsame : b = bo ∧ X = Y := Fnd.same HFN.out HSP.out hn (by
                        cases b
                        · exact .inr (Nat.le_of_not_lt fun h => hgo ⟨rfl, h⟩)
                        · exact .inl rfl)
                      obtain ⟨rfl, rfl⟩ := hsame
                      have rA := row_range (heap_far HVAm.out HFW.out hVAW)
                      have rW := row_range HW.out
                      have e1 : ∀ (op : BinOp) (x y : Operand) (w : World), (eqGuard op 23 x y (.agg (nums .u8 X).toArray) (.agg (nums .u8 X).toArray)).run Tryd.prog w = .ok () w := guard_hv X X
                      have e2 : ∀ w, (binOp .neq 23 (.agg (nums .u8 X).toArray) (.agg (nums .u8 X).toArray)).run Tryd.prog w = .ok (.bool false) w := fun w => by
                        have := neq_hv (w := w) hXX.out.1 hXX.out.1 hXX.out.2 hXX.out.2
                        rw [decide_eq_true rfl] at this; exact this
                      have hiX := hid (infoHol hXX.out)
                      have HLz := hid (show Below wl.heap.size wl wr from HLm.out.trans (HFW.out.below hWl (by have := HLm.out.size; omega)))
                      have hcase : (b = true ∧ n ≤ 48) ∨ (n = 49) := by
                        by_cases h49 : n = 49
                        · exact .inr h49
                        · refine .inl ⟨?_, by omega⟩
                          cases b
                          · exact absurd ⟨rfl, by omega⟩ hgo
                          · rfl
                      clear hgo HFN HSP
                      rcases hcase with ⟨rfl, hn48⟩ | rfl
                      · go_wp2_with (first | (refine wpList_load_midG rfl _ _ rfl VA 0 rfl (nums .u8 X) _ rA unH rfl hiY.out ?_) | (refine wpList_load_midG rfl _ _ rfl W 0 rfl (nums .u8 X) _ rW un32 rfl hiX.out ?_))
                        go_roundw
                        case rel => exact ⟨i + 1, by omega, by go_num, HLz.out⟩
                        case measure => simp [intOf]; omega
                      · go_wp2_with (first | (refine wpList_load_midG rfl _ _ rfl VA 0 rfl (nums .u8 X) _ rA unH rfl hiY.out ?_) | (refine wpList_load_midG rfl _ _ rfl W 0 rfl (nums .u8 X) _ rW un32 rfl hiX.out ?_))
                        go_roundw
                        case rel => exact ⟨i + 1, by omega, by go_num, HLz.out⟩
                        case measure => simp [intOf]; omega

              · have e0 : bits .and .i64 (i : Int) 1 = (i : Int) % 2 := and1 (i : Int)
                have t3 : ((i : Int) % 2 == 0) = false := by rw [beq_eq_false_iff_ne]; exact hev
                obtain ⟨p, hp⟩ : ∃ p : Nat, p = q0 := ⟨_, rfl⟩
                rw [← hp] at hc6i hd6
                have hp64 := hd6
                clear hp hev ea
                go_upto_region 40 with (fail)
                clear t3 e0 hc6i
                go_wp2_with fail
                refine (get_walk cb np p K hp64 _ HCa.out (HT.out.below (hP ▸ HBa.out))).mono ?_
                intro e wg r
                have hgb := r.1
                have HG := hid r.2
                have HFg := hid (HFa.out.trans (Far.of hgb))
                have HBg := hid (HBa.out.trans (hgb.mono (by have := HBa.out.size; omega)))
                have HVTg := hid (heap_keep HVTa.out hgb)
                have HOg := hid (own_below HOa.out hgb)
                have HLg := hid (bstep HLa.out hgb)
                clear r hgb HCa HFa HBa HVTa HOa HLa
                by_cases hout : 281474976710655 < p ∨ np ≤ 281474976710655 - p
                · have he : e = .returned (.tuple #[hv zero32, .bool false]) := by
                    rcases HG.out with ⟨i0, _, h1, h2, _⟩ | ⟨_, h⟩
                    · omega
                    · exact h
                  subst he
                  unfold hv
                  go_upto_region 41 with (refine wpList_store_row rfl _ _ _ rfl wg.heap.size (nums .u8 zero32).toArray rfl rfl _ _ (heap_alloc_new wg _) (infoHa zero32_ok) (sz32 zero32_ok _ rfl) (one32 zero32) ?_)
                  have LA := fun z => laid wg z (nums .u8 zero32).toArray 23
                  generalize hWW : World.setRow _ _ _ = wh
                  replace LA := hid (hWW ▸ LA _)
                  have HLh := hid (bstep HLg.out LA.out.2)
                  have rA := row_range LA.out.1
                  have HVA := hid LA.out.1
                  clear hWW LA
                  generalize wg.heap.size = VA at *
                  have e1 := eqz1
                  have e2 := eqz2
                  clear HVA HG HFg HBg HVTg HOg HLg
                  by_cases hb48 : 281474976710655 < p
                  · have t5 : decide ((p : Int) ≥ 281474976710656) = true := by rw [decide_eq_true_eq]; omega
                    clear hb48 hout
                    go_wp2_with (refine wpList_load_midG rfl _ _ rfl VA 0 rfl (nums .u8 zero32) _ rA unH rfl infoHlz ?_)
                    go_roundw
                    case rel => exact ⟨i + 1, by omega, by go_num, HLh.out⟩
                    case measure => simp [intOf]; omega
                  · have t5 : decide ((p : Int) ≥ 281474976710656) = false := by rw [decide_eq_false_iff_not]; omega
                    obtain ⟨d, hd⟩ : ∃ d : Nat, d = 281474976710655 - p := ⟨_, rfl⟩
                    have ed : 281474976710655 - (p : Int) = (d : Int) := by omega
                    have hd64 : d ≤ 281474976710655 := by omega
                    have t6 : decide ((d : Int) ≥ (np : Int)) = true := by rw [decide_eq_true_eq]; omega
                    have t7 : decide (d ≥ np) = true := by rw [decide_eq_true_eq]; omega
                    clear hb48 hout hd
                    go_wp2_with (refine wpList_load_midG rfl _ _ rfl VA 0 rfl (nums .u8 zero32) _ rA unH rfl infoHlz ?_)
                    go_roundw
                    case rel => exact ⟨i + 1, by omega, by go_num, HLh.out⟩
                    case measure => simp [intOf]; omega
                · have hin1 : p ≤ 281474976710655 := by omega
                  have hin2 : 281474976710655 - p < np := by omega
                  have hsp : ∃ (bo : Bool) (Y : List Nat), e = .returned (.tuple #[hv Y, .bool bo]) ∧ H32 Y ∧ Spec K np p bo Y := by
                    rcases HG.out with ⟨i0, hi0, _, _, hh, hno, he⟩ | ⟨hbad, he⟩
                    · exact ⟨true, _, he, leadN_ok (HKo.out i0 hi0), .inl ⟨rfl, i0, hi0, hh, hno, rfl⟩⟩
                    · refine ⟨false, _, he, zero32_ok, .inr ⟨rfl, ?_, rfl⟩⟩
                      rcases hbad with h | h | h
                      · omega
                      · omega
                      · exact h
                  obtain ⟨bo, Y, rfl, hYo, hsp⟩ := hsp
                  have HSP := hid hsp
                  have hYo := hid hYo
                  have hiY := hid (infoHl' hYo.out)
                  clear HG hout hsp
                  unfold hv
                  go_upto_region 41 with (refine wpList_store_row rfl _ _ _ rfl wg.heap.size (nums .u8 Y).toArray rfl rfl _ _ (heap_alloc_new wg _) (infoHa hYo.out) (sz32 hYo.out _ rfl) (one32 Y) ?_)
                  have LA := fun z => laid wg z (nums .u8 Y).toArray 23
                  generalize hWW : World.setRow _ _ _ = wh
                  replace LA := hid (hWW ▸ LA _)
                  have HFh := hid (HFg.out.trans (Far.of LA.out.2))
                  have HVTh := hid (heap_keep HVTg.out LA.out.2)
                  have HOh := hid (own_below HOg.out LA.out.2)
                  have HLh := hid (bstep HLg.out LA.out.2)
                  have hVAT := hid (show T0 < wg.heap.size from (Array.getElem?_eq_some_iff.1 HVTg.out).1)
                  clear HFg HBg HVTg HOg HLg
                  have HVA := hid LA.out.1
                  clear hWW LA
                  generalize wg.heap.size = VA at *
                  have t5 : decide ((p : Int) ≥ 281474976710656) = false := by rw [decide_eq_false_iff_not]; omega
                  obtain ⟨d, hd⟩ : ∃ d : Nat, d = 281474976710655 - p := ⟨_, rfl⟩
                  have ed : 281474976710655 - (p : Int) = (d : Int) := by omega
                  have t6 : decide ((d : Int) ≥ (np : Int)) = false := by rw [decide_eq_false_iff_not]; omega
                  have t7 : decide (d ≥ np) = false := by rw [decide_eq_false_iff_not]; omega
                  have hd64 : d ≤ 281474976710655 := by omega
                  clear hd
                  go_upto_region 45 with (refine wpList_store_row rfl _ _ _ rfl wh.heap.size (nums .u8 zero32).toArray rfl rfl _ _ (heap_alloc_new wh _) (infoHo zero32_ok) (sz32 zero32_ok _ rfl) (one32 zero32) ?_)
                  have LA := fun z => laid wh z (nums .u8 zero32).toArray 22
                  generalize hWW : World.setRow _ _ _ = wm
                  replace LA := hid (hWW ▸ LA _)
                  have HFm := hid (HFh.out.trans (Far.of LA.out.2))
                  have HVTm := hid (heap_keep HVTh.out LA.out.2)
                  have HOm := hid (own_below HOh.out LA.out.2)
                  have HLm := hid (bstep HLh.out LA.out.2)
                  have HVAm := hid (heap_keep HVA.out LA.out.2)
                  have hVAW : VA ≠ wh.heap.size := by have := (Array.getElem?_eq_some_iff.1 HVA.out).1; omega
                  have hTW : T0 ≠ wh.heap.size := by have := (Array.getElem?_eq_some_iff.1 HVTh.out).1; omega
                  have hOW := hid (show (Value.slice pa np pc).ownBlock ≠ some wh.heap.size from fun e => by have := (HOh.out.lt _ e).2; omega)
                  have hWl : wl.heap.size ≤ wh.heap.size := HLh.out.size
                  clear HFh HVTh HOh HLh HVA hVAT
                  have HW := hid LA.out.1
                  clear hWW LA
                  generalize wh.heap.size = W at *
                  clear t5 t6 t7 ed
                  go_wp2
                  go_loopw [27, 28] (fun x27 x28 wr => ∃ (n : Nat) (b : Bool) (X : List Nat), n ≤ 49 ∧ x28 = .int .i64 n ∧ x27 = .bool b ∧ Hid (Fnd K np p b X n) ∧ Hid (H32 X) ∧ Hid (wr.heap[W]? = some (.cells (nums .u8 X).toArray 22 (0, 0))) ∧ Hid (Far W wm wr)) (fun _ x28 _ => 49 - (intOf x28).toNat)
                  case atStart => exact ⟨0, false, zero32, by omega, rfl, rfl, hid (.inr ⟨rfl, fun j hj => by omega, rfl⟩), hid zero32_ok, HW, hid (Far.refl _ _)⟩
                  case round =>
                    clear HW
                    obtain ⟨n, b, X, hn, rfl, rfl, HFN, hXX, HW, HFW⟩ := hrel
                    by_cases hgo : b = false ∧ n < 49
                    · obtain ⟨rfl, hn49⟩ := hgo
                      have hno := hid (show ∀ j, j < n → ¬ hit K np p j from by
                        rcases HFN.out with ⟨h, _⟩ | ⟨_, h, _⟩
                        · cases h
                        · exact h)
                      have hXz := hid (show X = zero32 from by
                        rcases HFN.out with ⟨h, _⟩ | ⟨_, _, h⟩
                        · cases h
                        · exact h)
                      clear HFN
                      go_wp2
                      go_loopw [27, 29] (fun x27 x29 wr => ∃ k : Nat, k ≤ np ∧ x29 = .int .i64 ((k : Int) - 1) ∧ x27 = .bool false ∧ Hid (∀ l, k ≤ l → l < np → nz (281474976710655 - l) ≠ n) ∧ Hid (wr.heap[W]? = some (.cells (nums .u8 X).toArray 22 (0, 0))) ∧ Hid (Far W wm wr)) (fun _ x29 _ => (intOf x29 + 1).toNat)
                      case atStart => exact ⟨np, by omega, rfl, rfl, hid (fun l h1 h2 => by omega), HW, HFW⟩
                      case round =>
                        clear HW HFW
                        obtain ⟨k, hk, rfl, rfl, hnk, HW, HFW⟩ := hrel
                        by_cases h0 : 0 < k
                        · obtain ⟨l, rfl⟩ : ∃ l, k = l + 1 := ⟨k - 1, by omega⟩
                          have ej : (((l + 1 : Nat) : Int) - 1) = (l : Int) := by omega
                          rw [ej]
                          obtain ⟨q, hq⟩ : ∃ q : Nat, q = 281474976710655 - l := ⟨_, rfl⟩
                          have eq' : 281474976710655 - (l : Int) = (q : Int) := by omega
                          have hq48 : q < 281474976710656 := by omega
                          have HQ2 := hid hq
                          clear ej hq
                          go_wp2_with fail
                          refine (noughts_walk q (by omega) _).mono ?_
                          rintro e wr ⟨rfl, rfl⟩
                          by_cases hnz : nz q = n
                          · have HKn := hid (show K n = (q, PS.getD l []) by
                              rw [HK.out, HQ2.out]
                              exact kpf_last PS np l n (by omega) (by rw [← HQ2.out]; exact hnz) (fun l' h1 h2 => hnk.out l' (by omega) h2))
                            rw [hnz]
                            have hsh1 := hid (shr_int q n)
                            have hsh2 := hid (shr_int p n)
                            by_cases hdv : q / 2 ^ n = p / 2 ^ n
                            · have t8 : ((q : Int) / 2 ^ n == (p : Int) / 2 ^ n) = true := by rw [hsh1.out, hsh2.out, hdv]; simp
                              have hhit := hid (show hit K np p n from ⟨by rw [HKn.out]; exact hdv, by rw [HKn.out]; show 281474976710655 - q < np; rw [HQ2.out]; omega⟩)
                              obtain ⟨ra, rc, hrv, hrd⟩ := Rd.of_owns (Far.own HOm.out HFW.out hOW.out)
                              have hHs : Hs wr ra np rc PS := ⟨hrd, HNP.out.symm, hPH.out⟩
                              obtain ⟨b5, o5, ha5, hr5, hX32⟩ := hHs.get (show l < np by omega)
                              simp only [Value.slice.injEq] at hrv
                              obtain ⟨rfl, _, rfl⟩ := hrv
                              subst ha5
                              obtain ⟨X5, hX5⟩ : ∃ X5, X5 = PS.getD l [] := ⟨_, rfl⟩
                              rw [← hX5] at HKn hr5 hX32
                              have RX := hid hr5
                              have hXo := hid hX32
                              have hiX := hid (infoHol hX32)
                              have hbW := hid (show b5 ≠ W from fun e => hOW.out (by rw [e]; rfl))
                              have RT := hid (row_range (L := nums .u32 (H0 ++ K0)) (heap_far HVTm.out HFW.out hTW))
                              have hlo := hid (show H32 (leadN p n X5) from leadN_ok hX32)
                              have hzW := hid (show (nums .u8 X).toArray.size = (nums .u8 (leadN p n X5)).toArray.size by simp [hXX.out.1, hlo.out.1])
                              have hl32 : (l : Int) < (np : Int) := by omega
                              have hnew := hid (show Fnd K np p true (leadN p n X5) (n + 1) from .inl ⟨rfl, n, by omega, hhit.out, hno.out, by rw [HKn.out]⟩)
                              clear hX5 hr5 hX32 hHs hrd hnz hnk hdv
                              go_upto_region 55 with (fail)
                              clear t8
                              refine wp_region_held_drew (S := fun w' => Far W wr w') (by kernel_rfl) (Far.of ((Below.refl _ _).drew)) (fun hHeld => ?_)
                              try simp only [List.size_toArray, List.length_cons, List.length_nil, Nat.reduceAdd, Array.replicate_succ, Array.replicate_zero, List.push_toArray, List.nil_append, List.cons_append]
                              refine' wpAnyH_take (i := 0) (oi := { dst := some 204, op := Op.load 34 (Operand.tmp 9), type := 34, pos := "law.go:130", after := #[], guard := none }) (v := _) rfl (by kernel_rfl) (by kernel_rfl) (by kernel_rfl) (fun _ _ _ h => h) (yieldsIf_load_mid (by rfl) _ _ rfl T0 0 rfl (nums .u32 (H0 ++ K0)) _ (fun _ h => range_far h RT.out hTW) Tryd.underlying34 rfl hiT.out) hHeld ?_
                              (try simp only [Act.put, List.setIfInBounds_toArray, List.set_cons_zero, List.set_cons_succ])
                              refine wpAnyH_take (i := 1) (oi := { dst := some 205, op := Op.move (Operand.tmp 11), type := 48, pos := "law.go:130", after := #[], guard := none }) (v := ?vB1) rfl (by kernel_rfl) (by kernel_rfl) (by kernel_rfl) (fun _ _ _ h => h) (Or.inl ⟨by rfl, ?hyB1⟩) hHeld ?_
                              case hyB1 => (intro w hSw; (try dsimp only at hSw); go_simp; (try with_reducible rfl))
                              (try simp only [Act.put, List.setIfInBounds_toArray, List.set_cons_zero, List.set_cons_succ])
                              refine wpAnyH_take (i := 2) (oi := { dst := some 206, op := Op.move (Operand.tmp 29), type := 3, pos := "law.go:130", after := #[], guard := none }) (v := ?vB2) rfl (by kernel_rfl) (by kernel_rfl) (by kernel_rfl) (fun _ _ _ h => h) (Or.inl ⟨by rfl, ?hyB2⟩) hHeld ?_
                              case hyB2 => (intro w hSw; (try dsimp only at hSw); go_simp; (try with_reducible rfl))
                              (try simp only [Act.put, List.setIfInBounds_toArray, List.set_cons_zero, List.set_cons_succ])
                              refine wpAnyH_take (i := 3) (oi := { dst := some 207, op := Op.indexAddr 48 (Operand.tmp 205) (Operand.tmp 206), type := 0, pos := "law.go:130", after := #[{ on := 1, ground := Ground.data }, { on := 2, ground := Ground.data }], guard := none }) (v := ?vB3) rfl (by kernel_rfl) (by kernel_rfl) (by kernel_rfl) (fun _ _ _ h => h) (Or.inl ⟨by rfl, ?hyB3⟩) hHeld ?_
                              case hyB3 => (intro w hSw; (try dsimp only at hSw); go_simp; (try with_reducible rfl))
                              (try simp only [Act.put, List.setIfInBounds_toArray, List.set_cons_zero, List.set_cons_succ])
                              refine' wpAnyH_take (i := 4) (oi := { dst := some 208, op := Op.load 22 (Operand.tmp 207), type := 22, pos := "law.go:130", after := #[{ on := 3, ground := Ground.data }], guard := none }) (v := _) rfl (by kernel_rfl) (by kernel_rfl) (by kernel_rfl) (fun _ _ _ h => h) (yieldsIf_load_mid (by rfl) _ _ rfl b5 (o5 + l * 32) rfl (nums .u8 X5) _ (fun _ h => range_far h RX.out hbW.out) un32 rfl hiX.out) hHeld ?_
                              (try simp only [Act.put, List.setIfInBounds_toArray, List.set_cons_zero, List.set_cons_succ])
                              refine wpAnyH_take (i := 5) (oi := { dst := some 209, op := Op.move (Operand.tmp 23), type := 24, pos := "law.go:130", after := #[], guard := none }) (v := ?vB4) rfl (by kernel_rfl) (by kernel_rfl) (by kernel_rfl) (fun _ _ _ h => h) (Or.inl ⟨by rfl, ?hyB4⟩) hHeld ?_
                              case hyB4 => (intro w hSw; (try dsimp only at hSw); go_simp; (try with_reducible rfl))
                              (try simp only [Act.put, List.setIfInBounds_toArray, List.set_cons_zero, List.set_cons_succ])
                              refine wpAnyH_take (i := 6) (oi := { dst := some 210, op := Op.move (Operand.tmp 28), type := 3, pos := "law.go:130", after := #[], guard := none }) (v := ?vB5) rfl (by kernel_rfl) (by kernel_rfl) (by kernel_rfl) (fun _ _ _ h => h) (Or.inl ⟨by rfl, ?hyB5⟩) hHeld ?_
                              case hyB5 => (intro w hSw; (try dsimp only at hSw); go_simp; (try with_reducible rfl))
                              (try simp only [Act.put, List.setIfInBounds_toArray, List.set_cons_zero, List.set_cons_succ])
                              refine wpAnyH_ready (rs := [7]) (by kernel_rfl) (by simp) ?_
                              refine AllReadyH.cons (o := { dst := some 211, op := Op.call { callee := Callee.value (Operand.func 10), args := #[Operand.tmp 204, Operand.tmp 208, Operand.tmp 209, Operand.tmp 210], argTypes := #[34, 22, 24, 3] }, type := 22, pos := "law.go:130", after := #[{ on := 0, ground := Ground.data }, { on := 4, ground := Ground.data }, { on := 5, ground := Ground.data }, { on := 6, ground := Ground.data }], guard := none }) rfl (fun K hK => ?_) ?_
                              go_simp; refine (lead_walk X5 p n hXo.out (by omega) (by omega) _).mono ?_; rintro e wo ⟨rfl, bo2⟩; have BO := hid bo2; clear bo2
                              refine hK.out _ _ (hHeld.trans (Far.of BO.out)) (fun hHeld => ?_)
                              clear hK K
                              (try simp only [List.setIfInBounds_toArray, List.set_cons_zero, List.set_cons_succ])
                              refine wpAnyH_ready (rs := [8]) (by kernel_rfl) (by simp) ?_
                              refine AllReadyH.cons (o := { dst := none, op := Op.store 22 (Operand.tmp 26) (Operand.tmp 211), type := 0, pos := "law.go:130", after := #[{ on := 7, ground := Ground.data }, { on := 7, ground := Ground.chain }, { on := 0, ground := Ground.phase }, { on := 1, ground := Ground.phase }, { on := 2, ground := Ground.phase }, { on := 3, ground := Ground.phase }, { on := 4, ground := Ground.phase }, { on := 5, ground := Ground.phase }, { on := 6, ground := Ground.phase }, { on := 7, ground := Ground.phase }], guard := none }) rfl (fun K hK => ?_) ?_
                              rw [if_pos (by rfl)]; unfold hv; refine wp_store_row _ _ _ rfl W (nums .u8 (leadN p n X5)).toArray rfl rfl _ _ (heap_keep (heap_keep HW.out ((Below.refl _ _).drew)) BO.out) (infoHo hlo.out) hzW.out (one32 _) ?_
                              refine hK.out _ _ (hHeld.trans (far_row _ W _)) (fun hHeld => ?_)
                              clear hK K
                              (try simp only [List.setIfInBounds_toArray, List.set_cons_zero, List.set_cons_succ])
                              refine wpAnyH_done (by kernel_rfl) ?_ _
                              rotate_left
                              exact AllReadyH.nil
                              exact AllReadyH.nil

                              all_goals
                                have HW9 := hid (setRow_heap _ W _ (nums .u8 (leadN p n X5)).toArray _ _ (heap_keep (heap_keep HW.out ((Below.refl _ _).drew)) BO.out))
                                have HF9 := hid (HFW.out.trans hHeld)
                                clear hHeld
                                go_wp2
                                go_roundw
                                case rel => exact ⟨n + 1, true, _, by omega, by go_num, rfl, hnew, hlo, HW9, HF9⟩
                                case measure => simp [intOf]; omega
                            · have t8 : ((q : Int) / 2 ^ n == (p : Int) / 2 ^ n) = false := by rw [hsh1.out, hsh2.out]; exact beq_eq_false_iff_ne.2 (fun h => hdv (Int.ofNat.inj h))
                              have hnew := hid (show Fnd K np p false X (n + 1) from .inr ⟨rfl, fun j hj h => by
                                by_cases hjn : j = n
                                · subst hjn; have := h.1; rw [HKn.out] at this; exact hdv this
                                · exact hno.out j (by omega) h, hXz.out⟩)
                              clear hdv hnz hnk
                              go_wp2
                              go_roundw
                              case rel => exact ⟨n + 1, false, X, by omega, by go_num, rfl, hnew, hXX, HW, HFW⟩
                              case measure => simp [intOf]; omega
                          · have t6 : ((nz q : Int) == (n : Int)) = false := by rw [beq_eq_false_iff_ne]; omega
                            have hnk' := hid (show ∀ l', l ≤ l' → l' < np → nz (281474976710655 - l') ≠ n from fun l' h1 h2 => by
                              by_cases hll : l' = l
                              · subst hll; rw [← HQ2.out]; exact hnz
                              · exact hnk.out l' (by omega) h2)
                            clear hnz hnk
                            go_wp2
                            go_roundw
                            case rel => exact ⟨l, by omega, by go_num, rfl, hnk', HW, HFW⟩
                            case measure => simp [intOf]
                        · have hnew := hid (show Fnd K np p false X (n + 1) from .inr ⟨rfl, fun j hj h => by
                            by_cases hjn : j = n
                            · subst hjn
                              have h2 := h.2
                              rw [HK.out, kpf_none PS np j (fun l hl => hnk.out l (by omega) hl)] at h2
                              have e0 : (noneK j).1 = 0 := rfl
                              rw [e0] at h2
                              omega
                            · exact hno.out j (by omega) h, hXz.out⟩)
                          obtain rfl : k = 0 := by omega
                          clear hnk h0
                          go_wp2
                          go_roundw
                          case rel => exact ⟨n + 1, false, X, by omega, by go_num, rfl, hnew, hXX, HW, HFW⟩
                          case measure => simp [intOf]; omega
                    · have hsame : b = bo ∧ X = Y := Fnd.same HFN.out HSP.out hn (by
                        cases b
                        · exact .inr (Nat.le_of_not_lt fun h => hgo ⟨rfl, h⟩)
                        · exact .inl rfl)
                      obtain ⟨rfl, rfl⟩ := hsame
                      have rA := row_range (heap_far HVAm.out HFW.out hVAW)
                      have rW := row_range HW.out
                      have e1 : ∀ (op : BinOp) (x y : Operand) (w : World), (eqGuard op 23 x y (.agg (nums .u8 X).toArray) (.agg (nums .u8 X).toArray)).run Tryd.prog w = .ok () w := guard_hv X X
                      have e2 : ∀ w, (binOp .neq 23 (.agg (nums .u8 X).toArray) (.agg (nums .u8 X).toArray)).run Tryd.prog w = .ok (.bool false) w := fun w => by
                        have := neq_hv (w := w) hXX.out.1 hXX.out.1 hXX.out.2 hXX.out.2
                        rw [decide_eq_true rfl] at this; exact this
                      have hiX := hid (infoHol hXX.out)
                      have HLz := hid (show Below wl.heap.size wl wr from HLm.out.trans (HFW.out.below hWl (by have := HLm.out.size; omega)))
                      have hcase : (b = true ∧ n ≤ 48) ∨ (n = 49) := by
                        by_cases h49 : n = 49
                        · exact .inr h49
                        · refine .inl ⟨?_, by omega⟩
                          cases b
                          · exact absurd ⟨rfl, by omega⟩ hgo
                          · rfl
                      clear hgo HFN HSP
                      rcases hcase with ⟨rfl, hn48⟩ | rfl
                      · go_wp2_with (first | (refine wpList_load_midG rfl _ _ rfl VA 0 rfl (nums .u8 X) _ rA unH rfl hiY.out ?_) | (refine wpList_load_midG rfl _ _ rfl W 0 rfl (nums .u8 X) _ rW un32 rfl hiX.out ?_))
                        go_roundw
                        case rel => exact ⟨i + 1, by omega, by go_num, HLz.out⟩
                        case measure => simp [intOf]; omega
                      · go_wp2_with (first | (refine wpList_load_midG rfl _ _ rfl VA 0 rfl (nums .u8 X) _ rA unH rfl hiY.out ?_) | (refine wpList_load_midG rfl _ _ rfl W 0 rfl (nums .u8 X) _ rW un32 rfl hiX.out ?_))
                        go_roundw
                        case rel => exact ⟨i + 1, by omega, by go_num, HLz.out⟩
                        case measure => simp [intOf]; omega

            · obtain rfl : qn = i := by omega
              clear hlt hi HCa HFa HVTa HOa HLa
              have hPr : P ≤ wr.heap.size := by have := HBa.out.size; have := (Array.getElem?_eq_some_iff.1 VP4.out).1; omega
              go_wp2_with fail
              refine (get_nil _).mono ?_
              rintro e wg ⟨rfl, bg⟩
              have HBg := hid (HBa.out.trans (bg.mono hPr))
              have hPg : P ≤ wg.heap.size := by have := bg.size; omega
              clear bg HBa
              unfold hv
              go_upto_region 62 with (refine wpList_store_row rfl _ _ _ rfl wg.heap.size (nums .u8 zero32).toArray rfl rfl _ _ (heap_alloc_new wg _) (infoHa zero32_ok) (sz32 zero32_ok _ rfl) (one32 zero32) ?_)
              have LA := fun z => laid wg z (nums .u8 zero32).toArray 23
              generalize hWW : World.setRow _ _ _ = wh
              replace LA := hid (hWW ▸ LA _)
              have HBh := hid (HBg.out.trans (LA.out.2.mono hPg))
              have hPh : P ≤ wh.heap.size := by have := LA.out.2.size; omega
              clear HBg
              have HVA := hid LA.out.1
              clear hWW LA
              generalize wg.heap.size = VA at *
              clear HVA
              go_wp2_with fail
              refine (put_nil zero32 _).mono ?_
              rintro e wi ⟨rfl, bi⟩
              have HBi := hid (HBh.out.trans (bi.mono hPh))
              clear bi
              go_wp2_with fail
              refine (count_nil _).mono ?_
              rintro e wi ⟨rfl, rfl⟩
              go_wp2_with fail
              refine (encode_nil _).mono ?_
              rintro e wi ⟨rfl, rfl⟩
              go_wp2
              go_ret
              exact ⟨rfl, hP ▸ HBi.out⟩
end Go.Proofs.YtnfklnbdebcpiaaDoor
