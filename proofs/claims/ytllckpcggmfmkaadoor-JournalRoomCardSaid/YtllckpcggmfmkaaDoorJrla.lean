/- JournalRoom: as long as there is room what is put is there, in order. -/
import Derived.Test.YtllckpcggmfmkaaDoorJrra
import Derived.Test.YtllckpcggmfmkaaDoorOpenG
namespace Go.Proofs.YtllckpcggmfmkaaDoor
open Go.RowKit

theorem and63 (n : Int) : bits .and .i64 n 63 = n % 64 := by
  have h127 : (BitVec.ofInt 64 63).toNat = 2 ^ 6 - 1 := by decide
  have key : (BitVec.ofInt 64 n &&& BitVec.ofInt 64 63).toNat = (n % ((2 ^ 64 : Nat) : Int)).toNat % 2 ^ 6 := by
    rw [BitVec.toNat_and, BitVec.toNat_ofInt, h127, Nat.and_two_pow_sub_one_eq_mod]
  show IntKind.i64.wrap ((BitVec.ofInt 64 n &&& BitVec.ofInt 64 63).toNat : Nat) = n % 64
  rw [key, IntKind.wrap_i64]
  omega
theorem wf64 {n : Int} (h1 : -9223372036854775808 ≤ n) (h2 : n ≤ 9223372036854775807) : (Lit.int .i64 n).wf = true := by
  have e1 : IntKind.i64.min = -9223372036854775808 := by decide
  have e2 : IntKind.i64.max = 9223372036854775807 := by decide
  simp [Lit.wf, e1, e2]; omega
structure RmI (w : World) (jb db Bj Bd Bi n : Nat) (sd : Value) (i : Nat) (v8 : Value) (wr : World) : Prop where
  ex : ∃ rv next chk rs vs C, JourAt wr jb db Bj 0 next 1 chk [] rv rs ∧ DiskAt wr db Bd sd (.slice none 0 0) C [] ∧ C.length = n ∧ next ≤ n / 2 ∧ rs.length ≤ i ∧ (∀ r ∈ rs, r.length ≤ 400) ∧ wr.ownsRow Bi 23 1 v8 rs.length vs ∧ Els w vs rs ∧ ∀ g, rv.ownBlock = some g → v8.ownBlock ≠ some g
  bel : Below w.heap.size w wr
  bi : Bi ≤ wr.heap.size
theorem RmI.below {w : World} {jb db Bj Bd Bi n : Nat} {sd : Value} {i : Nat} {v8 : Value} {wr wz : World} (h : RmI w jb db Bj Bd Bi n sd i v8 wr) (b : Below wr.heap.size wr wz) : RmI w jb db Bj Bd Bi n sd i v8 wz := by
  obtain ⟨rv, next, chk, rs, vs, C, j, d, h1, h2, h3, h4, o, e, hs⟩ := h.ex
  exact ⟨⟨rv, next, chk, rs, vs, C, j.below b, d.below b, h1, h2, h3, h4, Below.ownK o b, e, hs⟩, h.bel.trans (b.mono h.bel.size), Nat.le_trans h.bi b.size⟩
theorem RmI.mono {w : World} {jb db Bj Bd Bi n : Nat} {sd : Value} {i i' : Nat} {v8 : Value} {wr : World} (h : RmI w jb db Bj Bd Bi n sd i v8 wr) (hi : i ≤ i') : RmI w jb db Bj Bd Bi n sd i' v8 wr := by
  obtain ⟨rv, next, chk, rs, vs, C, j, d, h1, h2, h3, h4, o, e, hs⟩ := h.ex
  exact ⟨⟨rv, next, chk, rs, vs, C, j, d, h1, h2, Nat.le_trans h3 hi, h4, o, e, hs⟩, h.bel, h.bi⟩
theorem rm_own {jb db Bj Bd Bi half next turn m n0 : Nat} {sd rv v8 : Value} {chk st b : List Nat} {rs C : List (List Nat)} {vs : List Value} {wr w5 : World}
    (hj : jb < Bi) (hdb : db < Bi) (hsd : ∀ g, sd.ownBlock = some g → g < Bi) (hs : ∀ g, rv.ownBlock = some g → v8.ownBlock ≠ some g) (o : wr.ownsRow Bi 23 1 v8 n0 vs)
    (A : AppOk wr jb db Bj Bd half next turn chk st rv rs b sd C m w5) : w5.ownsRow Bi 23 1 v8 n0 vs :=
  A.keep.own o (fun g hg hS => by
    have := (o.lt _ hg).1
    rcases hS with h | h | h | h
    · omega
    · have := hsd _ h; omega
    · omega
    · exact hs g h hg)
/-- a record more -/
theorem RmI.put {w : World} {jb db Bj Bd Bi n next m : Nat} {sd rv v8 v9 : Value} {chk b : List Nat} {rs C : List (List Nat)} {vs : List Value} {i : Nat} {wr w5 w6 : World} {a : Option Addr} {nn c : Nat}
    (hj : jb < Bi) (hdb : db < Bi) (hsd : ∀ g, sd.ownBlock = some g → g < Bi) (hlow : w.heap.size ≤ db ∧ (∀ g, sd.ownBlock = some g → w.heap.size ≤ g) ∧ w.heap.size ≤ Bj)
    (bel : Below w.heap.size w wr) (bi : Bi ≤ wr.heap.size) (jr : JourAt wr jb db Bj 0 next 1 chk [] rv rs) (hl : C.length = n) (hm : next + m ≤ n / 2) (hi : rs.length ≤ i) (h4 : ∀ r ∈ rs, r.length ≤ 400) (hb4 : b.length ≤ 400)
    (o : wr.ownsRow Bi 23 1 v8 rs.length vs) (e : Els w vs rs) (hs : ∀ g, rv.ownBlock = some g → v8.ownBlock ≠ some g) (hsl : Sl .u8 w a nn c b) (hb8 : ∀ d ∈ b, d < 256)
    (A : AppOk wr jb db Bj Bd 0 next 1 chk [] rv rs b sd C m w5)
    (o6 : w6.ownsRow Bi 23 1 v9 (rs.length + 1) (vs ++ [.slice a nn c])) (k6 : Keep (fun i => v8.ownBlock = some i) w5 w6) (nb : v9.ownBlock = v8.ownBlock ∨ v9.ownBlock = some (w5.heap.size + 1)) :
    RmI w jb db Bj Bd Bi n sd (i + 1) v9 w6 := by
  obtain ⟨rv', j5, nw⟩ := A.ex
  have ne8 : ∀ g, v8.ownBlock = some g → Bi ≤ g ∧ g < wr.heap.size := fun g hg => o.lt _ hg
  obtain ⟨vs5, or5, rr5⟩ := j5.row
  have o5 : w5.ownsRow Bi 23 1 v8 rs.length vs := A.keep.own o (fun g hg hS => by
    have := (ne8 g hg).1
    rcases hS with h | h | h | h
    · omega
    · have := hsd _ h; omega
    · omega
    · exact hs g h hg)
  have sep' : ∀ g, rv'.ownBlock = some g → v8.ownBlock ≠ some g := fun g hg h8 => by
    rcases nw with h | h
    · exact hs g (h ▸ hg) h8
    · have := h g hg; have := (ne8 g h8).2; omega
  have nb5 : ∀ g, v8.ownBlock = some g → NoBy w5 g := fun g hg => own_noBy o5 (by decide) hg
  have j6 := j5.keep k6 (fun g _ hg => nb5 g hg) (fun hg => by have := (ne8 _ hg).1; omega) (fun g hg h8 => sep' g hg h8)
  have d6 := A.dsk.keep k6 (fun g _ hg => nb5 g hg) (fun hg => by have := (ne8 _ hg).1; omega) (fun g hg h8 => by have := (ne8 _ h8).1; have := hsd g hg; omega) (fun g hg => nomatch hg)
  have b5 : Below w.heap.size wr w5 := A.keep.below (fun g h => by
    rcases h with h | h | h | h
    · rw [h]; exact hlow.1
    · exact hlow.2.1 g h
    · have := jr.lo; rw [h]; omega
    · obtain ⟨_, oo, _⟩ := jr.row
      have := (oo.lt _ h).1; omega) bel.size
  have b6 : Below w.heap.size w5 w6 := k6.below (fun g h => by have := (ne8 g h).1; omega) (Nat.le_trans bel.size A.keep.size)
  refine ⟨⟨rv', next + m, _, rs ++ [b], _, _, j6, d6, by rw [layB_len]; exact hl, hm, by rw [List.length_append, List.length_singleton]; omega, fun r hr => ?_, by rw [List.length_append, List.length_singleton]; exact o6, e.snoc hsl hb8, fun g hg h9 => ?_⟩, (bel.trans b5).trans b6, Nat.le_trans bi (Nat.le_trans A.keep.size k6.size)⟩
  · rw [List.mem_append, List.mem_singleton] at hr
    rcases hr with h | rfl
    · exact h4 r h
    · exact hb4
  · rcases nb with h | h
    · exact sep' g hg (h ▸ h9)
    · rw [h] at h9
      cases h9
      have := (or5.lt _ hg).2
      omega
set_option maxRecDepth 100000 in
set_option maxHeartbeats 8000000 in
theorem jroomlaw_walk (size : Int) (a : Option Addr) (L c : Nat) (ls : List BS) (w : World) (h : Parts w a L c ls) (ht : Tabs w) :
    Calls Tryd.prog 5 #[.int .i64 size, .slice a L c] w fun e w' => e = .returned (.bool true) ∧ Below w.heap.size w w' := by
  have HP := hid h
  have HT := hid ht
  clear h ht
  go_enter Tryd.func5, Tryd.ntmps5
  go_wp2_with (fail)
  refine (jhead_walk w HT.out).mono ?_
  rintro e w1 ⟨rfl, b1⟩
  have B1 := hid b1
  clear b1
  by_cases hL : L ≤ 40
  case neg =>
    have t1 : decide ((40 : Int) < (L : Int)) = true := decide_eq_true (by omega)
    have t2 : decide (40 < L) = true := decide_eq_true (by omega)
    clear hL
    go_wp2_with (fail)
    go_ret
    exact ⟨rfl, B1.out⟩
  have t1 : decide ((40 : Int) < (L : Int)) = false := decide_eq_false (by omega)
  have t2 : decide (40 < L) = false := decide_eq_false (by omega)
  have HL := hid hL
  obtain ⟨k, hk1, hk2⟩ : ∃ k : Nat, bits .and .i64 size 63 = (k : Int) ∧ k < 64 := ⟨(size % 64).toNat, by rw [and63]; omega, by omega⟩
  obtain ⟨n, hn⟩ : ∃ n, n = 4 + k := ⟨_, rfl⟩
  have r1 : IntKind.i64.wrap (4 + (k : Int)) = (n : Int) := by rw [IntKind.wrap_i64]; omega
  have hn2 : 4 ≤ n ∧ n ≤ 67 := by omega
  have HN := hid hn2
  have cl : clampD (n : Int) = n := by unfold clampD; omega
  have CL := hid cl
  clear hL hn hk2 hn2 cl
  go_wp2_with (fail)
  refine (dnew_walk (n : Int) (wf64 (by have := HN.out; omega) (by have := HN.out; omega)) w1).mono ?_
  rintro e w2 ⟨rfl, d2⟩
  rw [CL.out] at d2
  obtain ⟨sd, d2, b2⟩ := d2
  have D2 := hid d2
  have B2 := hid (B1.out.trans (b2.mono B1.out.size))
  have SD := hid (show ∀ g, sd.ownBlock = some g → w1.heap.size ≤ g from fun g e => by obtain ⟨vs', o', _⟩ := d2.sure; have := (o'.lt _ e).1; omega)
  clear d2 b2 t1 t2
  go_wp2_with (fail)
  refine (jopen_new D2.out (HT.out.below B2.out) (fun half hh b h t hr => fresh_no n half hh b h t hr)).mono ?_
  rintro e w3 ho
  unfold OpenN at ho
  rw [List.length_replicate, if_pos (by have := HN.out; omega)] at ho
  obtain ⟨jb, rfl, j3, d3, k3⟩ := ho
  have J3 := hid j3
  have D3 := hid d3
  have B3 := hid (show Below w.heap.size w w3 from B2.out.trans (k3.below (fun i e => by
    have := B1.out.size
    rcases e with rfl | e
    · exact this
    · have := SD.out i e; omega) B2.out.size))
  clear j3 d3 k3
  have MD := hid (World.ownsRow_made w3 #[] 0 (base := w3.heap.size) (e := 23) (size := 1) (Nat.le_refl _) (by simp) (by simp))
  have mb0 := hid ((Below.refl w3.heap.size w3).alloc (Nat.le_refl _) (.cells #[] 23))
  have R0 := hid (show RmI w jb w1.heap.size w2.heap.size (w1.heap.size + 1) w3.heap.size n sd 0 (.slice (some ⟨w3.heap.size, 0, none⟩) 0 0) (w3.alloc (.cells #[] 23)) from
    ⟨⟨_, _, _, [], [], _, J3.out.below mb0.out, D3.out.below mb0.out, by rw [layB_len, List.length_replicate], by have := HN.out; omega, by simp, by simp, MD.out, Els.nil _, fun g hg => nomatch hg⟩, B3.out.trans (mb0.out.mono B3.out.size), mb0.out.size⟩)
  have hjB := hid (show jb < w3.heap.size by obtain ⟨_, hj, _⟩ := J3.out.ex; exact hj.lt)
  go_upto_region 11 with (fail)
  go_loopw [8, 32] (fun x8 x32 wr => ∃ (i : Nat) (v8 : Value), v8 = x8 ∧ i ≤ L ∧ x32 = .int .i64 (i : Int) ∧ RmI w jb w1.heap.size w2.heap.size (w1.heap.size + 1) w3.heap.size n sd i v8 wr) (fun _ x32 _ => L - (intOf x32).toNat)
  case atStart => exact ⟨0, _, rfl, Nat.zero_le _, rfl, R0.out⟩
  case round =>
    obtain ⟨i, v8, hv8, hi, rfl, hR⟩ := hrel
    subst hv8
    have RR := hid hR
    clear hR R0 MD mb0
    by_cases hlt : i < L
    case neg =>
      obtain rfl : i = L := by omega
      have t1 : decide (i < i) = false := decide_eq_false (by omega)
      have t2 : decide ((i : Int) < (i : Int)) = false := decide_eq_false (by omega)
      clear hi hlt
      go_wp2_with (fail)
      obtain ⟨rv, next, chk, rs, vs, C, j, _⟩ := RR.out.ex
      refine (jstate_walk j (by decide)).mono ?_
      rintro e w5 ⟨v5, rfl, o5, b5⟩
      obtain ⟨a5, c5, rfl, _⟩ := Rd.of_owns o5
      have B5 := hid (RR.out.bel.trans (b5.mono RR.out.bel.size))
      clear o5 b5 j
      go_wp2_with (fail)
      go_ret
      exact ⟨rfl, B5.out⟩
    have t1 : decide (i < L) = true := decide_eq_true hlt
    have t2 : decide ((i : Int) < (L : Int)) = true := decide_eq_true (by omega)
    obtain ⟨l, hl⟩ := bget_some HP.out.2.1 hlt
    obtain ⟨b, off, rfl, hc, hg⟩ := HP.out.cells hl
    obtain ⟨hs, h8, _⟩ := hg
    obtain ⟨n5, hn5⟩ : ∃ n5, n5 = l.v.length := ⟨_, rfl⟩
    rw [← hn5] at hc hs
    have cq := cell_keep RR.out.bel hc
    have S5 := hid hs
    have H8 := hid h8
    have N5 := hid hn5
    obtain ⟨i1, hi1⟩ : ∃ i1, i1 = i + 1 := ⟨_, rfl⟩
    have r4 : IntKind.i64.wrap ((i : Int) + 1) = (i1 : Int) := by have := HL.out; rw [IntKind.wrap_i64]; omega
    have I1 := hid hi1
    have LT := hid hlt
    clear hi hlt hl hc hs h8 hn5 hi1
    by_cases h400 : n5 ≤ 400
    case neg =>
      have t3 : decide ((400 : Int) < (n5 : Int)) = true := decide_eq_true (by omega)
      have t4 : decide (400 < n5) = true := decide_eq_true (by omega)
      clear h400
      go_wp2_with (fail)
      go_roundw
      case rel => exact ⟨i1, _, rfl, by have := I1.out; have := LT.out; omega, rfl, RR.out.mono (by have := I1.out; omega)⟩
      case measure => simp [intOf]; have := I1.out; have := LT.out; omega
    have t3 : decide ((400 : Int) < (n5 : Int)) = false := decide_eq_false (by omega)
    have t4 : decide (400 < n5) = false := decide_eq_false (by omega)
    have H400 := hid h400
    obtain ⟨rv, next, chk, rs, vs, C, j, d, hCl, hnx, hri, h4, o, e, hsp⟩ := RR.out.ex
    have J := hid j
    have D := hid d
    have O := hid o
    have E := hid e
    have FA := hid (And.intro hCl (And.intro hnx (And.intro hri (And.intro h4 hsp))))
    obtain ⟨ro, hro⟩ : ∃ ro : Int, ro = (((C.length / 2 - next) * 64 : Nat) : Int) - 36 := ⟨_, rfl⟩
    have JM := jroom_walk j d (by rw [hCl]; exact hnx)
    rw [← hro] at JM
    have JR := hid JM
    have RO := hid hro
    clear h400 j d o e hCl hnx hri h4 hsp hro JM
    go_wp2_with (fail)
    refine JR.out.mono ?_
    rintro e w5 ⟨rfl, b5⟩
    have B5 := hid b5
    have BW := hid (RR.out.bel.trans (b5.mono RR.out.bel.size))
    clear b5 JR
    obtain ⟨m, hm⟩ : ∃ m, m = (99 + l.v.length) / 64 := ⟨_, rfl⟩
    have HM := hid hm
    clear hm
    have lowD := hid (show w.heap.size ≤ w1.heap.size ∧ (∀ g, sd.ownBlock = some g → w.heap.size ≤ g) ∧ w.heap.size ≤ w2.heap.size from ⟨B1.out.size, fun g hg => Nat.le_trans B1.out.size (SD.out g hg), B2.out.size⟩)
    have sdB := hid (show w1.heap.size < w2.heap.size ∧ (∀ g, sd.ownBlock = some g → g < w2.heap.size) ∧ w2.heap.size ≤ w3.heap.size from
      ⟨Nat.lt_of_lt_of_le D2.out.lt.1 D2.out.lt.2, fun g e => by obtain ⟨vs', o', _⟩ := D2.out.sure; exact (o'.lt _ e).2, by have := hjB.out; have := J3.out.lo; omega⟩)
    go_wp2_with (fail)
    refine (japp_walk (J.out.below B5.out) (D.out.below B5.out) (by decide) (by have := FA.out.2.1; have := HN.out; omega) ⟨sdB.out.1, sdB.out.2.1⟩ (HT.out.below BW.out) (by have := FA.out.2.2.1; have := LT.out; have := HL.out; omega) l.a n5 l.c l.v
      (fun w' k => S5.out.below (BW.out.trans (k.below (fun g h => by
        rcases h with h | h
        · rw [h]; exact lowD.out.1
        · exact lowD.out.2.1 g h) BW.out.size))) H8.out (by have := H400.out; omega) m HM.out).mono ?_
    rintro e w6 ha
    unfold AppRes at ha
    by_cases hfit : next + m ≤ C.length / 2
    · rw [if_pos hfit] at ha
      obtain ⟨rfl, A⟩ := ha
      have HA := hid A
      have t5 : decide ((n5 : Int) ≤ ro) = true := decide_eq_true (by have := RO.out; have := HM.out; have := N5.out; omega)
      have O6 := hid (rm_own hjB.out (Nat.lt_of_lt_of_le sdB.out.1 sdB.out.2.2) (fun g hg => Nat.lt_of_lt_of_le (sdB.out.2.1 g hg) sdB.out.2.2) FA.out.2.2.2.2 (Below.ownK O.out B5.out) A)
      have FIT := hid hfit
      clear A hfit
      go_wp2_with (at_builtin; refine wpList_pushK rfl _ _ 42 rfl tySs w3.heap.size O6.out rfl rfl rfl rfl (by have := FA.out.2.2.1; have := LT.out; have := HL.out; omega) (by decide) (Nat.le_trans (Nat.le_trans RR.out.bi B5.out.size) HA.out.keep.size) ?_; intro v7 w7 own7 k7 nb7; have OV := hid own7; have K7 := hid k7; have NB := hid nb7; clear own7 k7 nb7)
      have R6 := hid (show RmI w jb w1.heap.size w2.heap.size (w1.heap.size + 1) w3.heap.size n sd i1 v7 w7 from by
        rw [I1.out]
        exact RmI.put hjB.out (Nat.lt_of_lt_of_le sdB.out.1 sdB.out.2.2) (fun g hg => Nat.lt_of_lt_of_le (sdB.out.2.1 g hg) sdB.out.2.2) lowD.out BW.out (Nat.le_trans RR.out.bi B5.out.size) (J.out.below B5.out) FA.out.1 (by have := FIT.out; rw [FA.out.1] at this; exact this) FA.out.2.2.1 FA.out.2.2.2.1 (by rw [← N5.out]; exact H400.out) (Below.ownK O.out B5.out) E.out FA.out.2.2.2.2 S5.out H8.out HA.out OV.out K7.out NB.out)
      clear HA O6 OV K7 NB J D O E FA RO FIT B5 BW RR t5
      obtain ⟨rv7, nx7, ck7, rs7, vs7, C7, j7, d7, _, _, i7, l7, o7, e7, _⟩ := R6.out.ex
      have J7 := hid j7
      have O7 := hid o7
      have E7 := hid e7
      have L7 := hid (And.intro i7 l7)
      obtain ⟨N7, hN7⟩ : ∃ N7, N7 = rs7.length := ⟨_, rfl⟩
      have NN := hid hN7
      clear j7 d7 o7 e7 i7 l7 hN7
      go_wp2_with (fail)
      refine (jrecs_walk J7.out (by have := L7.out.1; have := LT.out; have := HL.out; have := I1.out; omega) (fun r hr => by have := L7.out.2 r hr; omega)).mono ?_
      rintro e w8 ⟨v, vs8, rfl, o8, r8, b8⟩
      obtain ⟨a8, c8, rfl, rd8⟩ := Rd.of_owns o8
      have o9 := Below.ownK O7.out b8
      rw [← NN.out] at rd8 o9
      obtain ⟨a9, c9, rfl, rd9⟩ := Rd.of_owns o9
      have R8 := hid (R6.out.below b8)
      have SM := hid (lsame_walk w8 a8 a9 c8 c9 vs8 vs7 rs7 N7 NN.out rd8 rd9 r8.els (E7.out.below R8.out.bel))
      rw [← NN.out]
      clear o8 r8 b8 o9 rd8 rd9 J7 O7 E7 L7
      go_wp2_with (fail)
      refine SM.out.mono ?_
      rintro e w9 ⟨rfl, b9⟩
      have R9 := hid (R8.out.below b9)
      clear b9 SM R8
      go_wp2_with (fail)
      go_roundw
      case rel => exact ⟨i1, _, rfl, by have := I1.out; have := LT.out; omega, rfl, R9.out⟩
      case measure => simp [intOf]; have := I1.out; have := LT.out; omega
    · rw [if_neg hfit] at ha
      obtain ⟨rfl, A⟩ := ha
      have t5 : decide ((n5 : Int) ≤ ro) = false := decide_eq_false (by have := RO.out; have := HM.out; have := N5.out; omega)
      have R6 := hid ((RR.out.below B5.out).below A)
      clear A hfit J D O E FA RO B5 BW RR
      obtain ⟨rv7, nx7, ck7, rs7, vs7, C7, j7, d7, _, _, i7, l7, o7, e7, _⟩ := R6.out.ex
      have J7 := hid j7
      have O7 := hid o7
      have E7 := hid e7
      have L7 := hid (And.intro i7 l7)
      obtain ⟨N7, hN7⟩ : ∃ N7, N7 = rs7.length := ⟨_, rfl⟩
      have NN := hid hN7
      clear j7 d7 o7 e7 i7 l7 hN7
      go_wp2_with (fail)
      refine (jrecs_walk J7.out (by have := L7.out.1; have := LT.out; have := HL.out; have := I1.out; omega) (fun r hr => by have := L7.out.2 r hr; omega)).mono ?_
      rintro e w8 ⟨v, vs8, rfl, o8, r8, b8⟩
      obtain ⟨a8, c8, rfl, rd8⟩ := Rd.of_owns o8
      have o9 := Below.ownK O7.out b8
      rw [← NN.out] at rd8 o9
      obtain ⟨a9, c9, rfl, rd9⟩ := Rd.of_owns o9
      have R8 := hid (R6.out.below b8)
      have SM := hid (lsame_walk w8 a8 a9 c8 c9 vs8 vs7 rs7 N7 NN.out rd8 rd9 r8.els (E7.out.below R8.out.bel))
      rw [← NN.out]
      clear o8 r8 b8 o9 rd8 rd9 J7 O7 E7 L7
      go_wp2_with (fail)
      refine SM.out.mono ?_
      rintro e w9 ⟨rfl, b9⟩
      have R9 := hid (R8.out.below b9)
      clear b9 SM R8
      go_wp2_with (fail)
      go_roundw
      case rel => exact ⟨i1, _, rfl, by have := I1.out; have := LT.out; omega, rfl, R9.out.mono (by have := I1.out; omega)⟩
      case measure => simp [intOf]; have := I1.out; have := LT.out; omega
end Go.Proofs.YtllckpcggmfmkaaDoor

/- JournalRoom's walk, its argument opened. -/
namespace Go.Proofs.YtllckpcggmfmkaaDoor
open Go.RowKit

theorem opens_bytesP {H : Type} {enc : TypeId × Value → H} {W : World} : Opens enc Tryd.prog W 23 SLo.cells (SLo.good W 1 1 (fun z : Nat => [Value.int .u8 (z : Int)]) (fun z => z < 256)) :=
  opens_slice Tryd.underlying23 (opens_nat (fun _ => u8_nat) Tryd.underlying5) (by kernel_rfl) (by kernel_rfl) (fun _ => rfl) (by decide)
theorem opens_parts {H : Type} {enc : TypeId × Value → H} {W : World} : Opens enc Tryd.prog W 42 SLo.cells (SLo.good W 1 24 BS.cells (BS.good W)) := by
  refine opens_slice Tryd.underlying42 (Opens.map opens_bytesP (fun x => ⟨x.a, x.c, x.xs⟩) (fun _ => rfl) ?_) (by kernel_rfl) (by kernel_rfl) (fun _ => rfl) (by decide)
  intro s hs
  obtain ⟨h1, h2, h3⟩ := SLo.nums (k := .u8) (W := W) (bytes := 1) (M := 256) (s := s) hs
  exact ⟨h1, h2, by simpa using h3⟩
theorem lawRoom (size : Int) (a : Option Addr) (l c : Nat) (ls : List BS) (_hm : (Lit.int .i64 size).wf = true) (w : World) (hl : ls.length = l) (h : SLo.good w 1 24 BS.cells (BS.good w) ⟨a, c, ls⟩) (ht : Tabs w) :
    Calls Tryd.prog 5 #[.int .i64 size, .slice a l c] w fun e w' => e = .returned (.bool true) ∧ Below w.heap.size w w' := by
  subst hl
  exact jroomlaw_walk size a ls.length c ls w ⟨h.1, rfl, h.2.1⟩ ht
end Go.Proofs.YtllckpcggmfmkaaDoor
