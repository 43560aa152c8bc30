/- EdgeRuns: a round. -/
import Derived.Test.YthccjefhlmngbaaDoorRn1
import Derived.Test.YthccjefhlmngbaaDoorRn2
import Derived.Test.YthccjefhlmngbaaDoorKeo
namespace Go.Proofs.YthccjefhlmngbaaDoor
open Go.RowKit

def tailC : Code → Code
  | .seq _ b => b
  | c => c
def rdF2 (A0 A1 A2 A3 E : Code) : Nat → Option Code
  | 41 => some A0
  | 63 => some A1
  | 74 => some A2
  | 83 => some A3
  | 89 => some E
  | _ => none
def rdF1 (S : Code) : Nat → Option Code
  | 22 => some S
  | _ => none
noncomputable def rdX (S A0 A1 A2 A3 E : Code) : Code := putS (rdF1 (.seq S (putS (rdF2 A0 A1 A2 A3 E) (tailC (rnP 22))))) (rnP 19)
def RdO (w0 : World) (eb tb mb t2 m2 : Nat) (dl : Int) (B nq : Nat) (qv sv : Value) (k : Nat) : Exit → Act → World → Prop
  | .normal, A, w => A.defers = [] ∧ RndI w0 eb tb mb t2 m2 dl B nq qv sv (k + 1) A.tmps w
  | _, _, _ => False
theorem bzL : Tryd.prog.built 42 [] = some lz.cells.toArray := by kernel_rfl
set_option maxRecDepth 1000000 in
set_option maxHeartbeats 16000000 in
theorem roundC {w0 w : World} {eb tb mb t2 m2 : Nat} {dl : Int} {B nq : Nat} {v : Value} {L : List Fw} {M : QM} {va : Value} {qa sa : Option Addr} {ql qc sl sc : Nat} {es : List Ed} {k : Nat} {T : Array Value} (s : RSl dl (.slice qa ql qc) (.slice sa sl sc) tb t2 eb va k T) (run : RunJ w0 w eb tb mb t2 m2 dl B nq v L M va L M) (few : L.length ≤ k) (k60 : k < 60) (hk : k < sl) (hs : Eds w0 sa sl sc es) (ht : Tabs w0) (hq : ql ≤ 6) (hdl : 0 ≤ dl ∧ dl ≤ 1073741824) :
    (rnP 19).wp Tryd.prog (RdO w0 eb tb mb t2 m2 dl B nq (.slice qa ql qc) (.slice sa sl sc) k) ⟨T, []⟩ w := by
  have RUN := hid run
  have FEW := hid (And.intro few k60)
  have HT := hid ht
  have HQ := hid hq
  have DL := hid hdl
  obtain ⟨b, off, x, ha, hxk, row, xok⟩ := (hs.below run.ses.b).get hk
  subst ha
  have XOK := hid xok
  have unE := Tryd.underlying60
  have xil := hid (infoEl xok)
  have xia := hid (infoEa xok)
  have xiz := hid (zE_as xok)
  have xio := hid (all_oneCell_toArray (Ed.one x))
  have ZE := zeroE
  have ZL := zeroL
  have bz := bzL
  have LT := hid hk
  have e : rnP 19 = rdX (headC (rnP 22)) (rnP 41) (rnP 63) (rnP 74) (rnP 83) (rnP 89) := by kernel_rfl
  rw [e]
  have PS := hid (fun (R : Nat) (T : Array Value) (wx : World) (s : RSl dl (.slice qa ql qc) (.slice (some ⟨b, off, none⟩) sl sc) tb t2 eb va k T) (e19 : tm T 19 = .pointer (some ⟨R, 0, none⟩)) (e20 : tm T 20 = .int .i64 (-1)) (e21 : tm T 21 = .int .i64 (-1)) (hr : wx.heap[R]? = some (.cells x.cells.toArray 60 (0, 0))) (own : wx.ownsRow B 62 204 va L.length (L.flatMap Fw.cells)) => search s e19 e20 e21 hr xok own run.ses.s.e.ok (by omega))
  have P0 := hid (fun (v : Value) (L : List Fw) (M : QM) (va : Value) (R X Y : Nat) (i o : Int) (T : Array Value) (wx : World) (h : ArmI w0 wx eb tb mb t2 m2 dl B nq v L M va (.slice qa ql qc) (.slice (some ⟨b, off, none⟩) sl sc) k R X Y i o x T) (h0 : x.k = 0) => arm0 h h0 hdl)
  have P1 := hid (fun (v : Value) (L : List Fw) (M : QM) (va : Value) (R X Y : Nat) (i o : Int) (T : Array Value) (wx : World) (h : ArmI w0 wx eb tb mb t2 m2 dl B nq v L M va (.slice qa ql qc) (.slice (some ⟨b, off, none⟩) sl sc) k R X Y i o x T) (h0 : x.k ≠ 0) => arm1 h h0 ht)
  have P2 := hid (fun (v : Value) (L : List Fw) (M : QM) (va : Value) (R X Y : Nat) (i o : Int) (T : Array Value) (wx : World) (h : ArmI w0 wx eb tb mb t2 m2 dl B nq v L M va (.slice qa ql qc) (.slice (some ⟨b, off, none⟩) sl sc) k R X Y i o x T) (h0 : x.k ≠ 0) => arm2 h h0)
  have P3 := hid (fun (v : Value) (L : List Fw) (M : QM) (va : Value) (R X Y : Nat) (i o : Int) (T : Array Value) (wx : World) (h : ArmI w0 wx eb tb mb t2 m2 dl B nq v L M va (.slice qa ql qc) (.slice (some ⟨b, off, none⟩) sl sc) k R X Y i o x T) (h0 : x.k ≠ 0) => arm3 h h0)
  have PE := hid (fun (v : Value) (L : List Fw) (M : QM) (va : Value) (X Y : Nat) (c : Int) (lg : Lg) (T : Array Value) (wx : World) (s : RSl dl (.slice qa ql qc) (.slice (some ⟨b, off, none⟩) sl sc) tb t2 eb va k T) (e28 : tm T 28 = .int .i64 c) (e29 : tm T 29 = .int .i64 c) (e30 : tm T 30 = .pointer (some ⟨X, 0, none⟩)) (e31 : tm T 31 = .pointer (some ⟨Y, 0, none⟩)) (run : RunJ w0 wx eb tb mb t2 m2 dl B nq v L M va L M) (few : L.length ≤ k + 1) (lok : lg.ok) (hX : wx.heap[X]? = some (.cells lg.cells.toArray 42 (0, 0))) (hY : wx.heap[Y]? = some (.cells lg.cells.toArray 42 (0, 0))) => rend s e28 e29 e30 e31 run few k60 lok hX hY hq)
  generalize headC (rnP 22) = CS at *
  generalize rnP 41 = C0 at *
  generalize rnP 63 = C1 at *
  generalize rnP 74 = C2 at *
  generalize rnP 83 = C3 at *
  generalize rnP 89 = CE at *
  clear e
  rw [frameR s.size, s.t0, s.t1, s.t02, s.t7, s.t8, s.t9, s.t17, s.t18]
  clear s run few k60 hk hs ht hq hdl hxk xok
  conv => arg 2; unfold rdX; arg 2; whnf
  simp only [putS, firstR, rdF1, Option.bind_some, Option.bind_none, Option.getD_some, Option.getD_none]
  go_upto_region 20 with (first | with_reducible refine wpList_ld b (off + k * 206) x.cells row unE xil rfl rfl ?_ | (with_reducible refine wpList_var x.cells.toArray _ ZE xia xiz xio rfl rfl ?_; intro w6 hI hb6))
  have R6 := hid (RUN.out.below hb6)
  have HR6 := hid (HeldR.new RUN.out hI (Nat.le_refl _))
  obtain ⟨R, hR⟩ : ∃ R, R = w.heap.size := ⟨_, rfl⟩
  rw [← hR] at HR6 ⊢
  clear hI hb6 hR RUN row xil xia xiz xio
  go_wp2_with (fail)
  rename_i K18 a18 _ aKK aK
  have A18 := hid a18
  have HK0 := hid aK
  clear aK a18
  refine wp_mono (PS.out R _ w6 ⟨rfl, rfl, rfl, rfl, rfl, rfl, rfl, rfl, rfl⟩ rfl rfl rfl HR6.out.1.1 R6.out.own) ?_
  rintro e A w7 hh
  cases e with
  | normal =>
    obtain ⟨T7, df⟩ := A
    obtain ⟨hd, s7, e19, ⟨i, o, e20, e21, ii, io⟩, b7⟩ := hh
    dsimp only at hd s7 e19 e20 e21
    subst hd
    have R7 := hid (R6.out.below b7)
    have HR7 := hid (HR6.out.below b7)
    have II := hid ii
    have IO := hid io
    refine HK0.out _ _ ?_
    rw [frameR s7.size, s7.t0, s7.t1, s7.t02, s7.t7, s7.t8, s7.t9, s7.t17, s7.t18, e19, e20, e21]
    clear s7 e19 e20 e21 ii io b7 HK0 PS R6 HR6
    conv => arg 2; arg 2; whnf
    conv => arg 2; whnf
    simp only [putS, firstR, rdF2, Option.bind_some, Option.bind_none, Option.getD_some, Option.getD_none]
    have lia := hid (infoLa lz_ok)
    have liz := hid (zL_as lz_ok)
    have lio := hid (all_oneCell_toArray (Lg.one lz))
    go_upto_region 38 with (first | with_reducible refine wpList_mk0 bz ?_ | (with_reducible refine wpList_var lz.cells.toArray _ ZL lia liz lio rfl rfl ?_; intro w8 hX hb8))
    have R8 := hid (R7.out.below hb8)
    have HR8 := hid (HR7.out.below hb8)
    have HX8 := hid (HeldR.new R7.out hX (Nat.le_refl _))
    obtain ⟨X, eX⟩ : ∃ X, X = w7.heap.size := ⟨_, rfl⟩
    rw [← eX] at HX8 ⊢
    have N1 := hid (show R ≠ X from by have := HR7.out.low; omega)
    clear hX hb8 eX R7 HR7
    go_upto_region 39 with (first | with_reducible refine wpList_mk0 bz ?_ | (with_reducible refine wpList_var lz.cells.toArray _ ZL lia liz lio rfl rfl ?_; intro w9 hY hb9))
    have R9 := hid (R8.out.below hb9)
    have HR9 := hid (HR8.out.below hb9)
    have HX9 := hid (HX8.out.below hb9)
    have HY9 := hid (HeldR.new R8.out hY (Nat.le_refl _))
    obtain ⟨Y, eY⟩ : ∃ Y, Y = w8.heap.size := ⟨_, rfl⟩
    rw [← eY] at HY9 ⊢
    have NE := hid (show X ≠ Y ∧ R ≠ X ∧ R ≠ Y from by have := HR8.out.low; have := HX8.out.low; have := N1.out; omega)
    clear hY hb9 eY R8 HR8 HX8 N1
    have c0 : w9.cell? ⟨R, 0, none⟩ = some (.int .i64 x.k) := x.hasK.one (row_range HR9.out.1.1)
    go_upto_region 40 with (fail)
    rename_i K89 a89 K40 a40
    have A89 := hid a89
    have A40 := hid a40
    clear a89 a40 c0
    have MID : ∀ (T : Array Value) (wx : World) (v : Value) (L : List Fw) (M : QM) (va : Value) (X Y : Nat) (c : Int) (lg : Lg) (s : RSl dl (.slice qa ql qc) (.slice (some ⟨b, off, none⟩) sl sc) tb t2 eb va k T) (e28 : tm T 28 = .int .i64 c) (e29 : tm T 29 = .int .i64 c) (e30 : tm T 30 = .pointer (some ⟨X, 0, none⟩)) (e31 : tm T 31 = .pointer (some ⟨Y, 0, none⟩)) (run : RunJ w0 wx eb tb mb t2 m2 dl B nq v L M va L M) (few : L.length ≤ k + 1) (lok : lg.ok) (hX : wx.heap[X]? = some (.cells lg.cells.toArray 42 (0, 0))) (hY : wx.heap[Y]? = some (.cells lg.cells.toArray 42 (0, 0))), K89 ⟨T, []⟩ wx := by
      intro T wx v L M va X Y c lg s e28 e29 e30 e31 run few lok hX hY
      refine A89.out _ _ ?_
      refine wp_mono (PE.out v L M va X Y c lg T wx s e28 e29 e30 e31 run few lok hX hY) ?_
      rintro e A w10 hh
      cases e with
      | normal =>
        obtain ⟨T10, df⟩ := A
        obtain ⟨hd, v', va', L', M', s10, run', few'⟩ := hh
        dsimp only at hd s10
        subst hd
        refine A18.out _ _ ?_
        rw [frameR s10.size, s10.t0, s10.t1, s10.t02, s10.t7, s10.t8, s10.t9, s10.t17, s10.t18]
        have k61 : k < 61 := by have := FEW.out; omega
        have RN := hid run'
        have FN := hid few'
        clear s10 run' few' A18 A89 A40 s e28 e29 e30 e31 run few hX hY
        go_wp2_with (fail)
        exact ⟨rfl, v', va', L', M', ⟨rfl, rfl, rfl, rfl, rfl, rfl, rfl, rfl, by simp only [tm]; go_num⟩, RN.out, FN.out⟩
      | _ => exact hh.elim
    have MIDH := hid MID
    clear MID
    by_cases k0 : x.k = 0
    case pos =>
      have t1 : (x.k == 0) = true := by simp [k0]
      have K0 := hid k0
      clear k0
      go_wp2_with (fail)
      refine A40.out _ _ ?_
      go_wp2_with (fail)
      refine wp_mono (P0.out v L M va R X Y i o _ w9 { s := ⟨rfl, rfl, rfl, rfl, rfl, rfl, rfl, rfl, rfl⟩, t19 := rfl, t20 := rfl, t21 := rfl, t28 := rfl, t29 := rfl, t30 := rfl, t31 := rfl, run := R9.out, few := FEW.out.1, k60 := FEW.out.2, r := HR9.out, hx := HX9.out, hy := HY9.out, ne := NE.out, ok := XOK.out, ii := II.out, io := IO.out } K0.out) ?_
      rintro e A w10 hh
      cases e with
      | normal =>
        obtain ⟨T10, df⟩ := A
        obtain ⟨hd, v', va', L', M', c, lg, X', Y', s10, e28, e29, e30, e31, run, few, lok, hX, hY⟩ := hh
        dsimp only at hd s10 e28 e29 e30 e31
        subst hd
        exact MIDH.out T10 w10 v' L' M' va' X' Y' c lg s10 e28 e29 e30 e31 run few lok hX hY
      | _ => exact hh.elim
    have t1 : (x.k == 0) = false := by simp [k0]
    have K0 := hid k0
    clear k0
    go_wp2_with (fail)
    refine A40.out _ _ ?_
    clear t1
    go_upto_region 62 with (fail)
    by_cases k1 : x.k = 1
    case pos =>
      have t1 : (x.k == 1) = true := by simp [k1]
      clear k1
      go_wp2_with (fail)
      refine wp_mono (P1.out v L M va R X Y i o _ w9 { s := ⟨rfl, rfl, rfl, rfl, rfl, rfl, rfl, rfl, rfl⟩, t19 := rfl, t20 := rfl, t21 := rfl, t28 := rfl, t29 := rfl, t30 := rfl, t31 := rfl, run := R9.out, few := FEW.out.1, k60 := FEW.out.2, r := HR9.out, hx := HX9.out, hy := HY9.out, ne := NE.out, ok := XOK.out, ii := II.out, io := IO.out } K0.out) ?_
      rintro e A w10 hh
      cases e with
      | normal =>
        obtain ⟨T10, df⟩ := A
        obtain ⟨hd, v', va', L', M', c, lg, X', Y', s10, e28, e29, e30, e31, run, few, lok, hX, hY⟩ := hh
        dsimp only at hd s10 e28 e29 e30 e31
        subst hd
        exact MIDH.out T10 w10 v' L' M' va' X' Y' c lg s10 e28 e29 e30 e31 run few lok hX hY
      | _ => exact hh.elim
    have t1 : (x.k == 1) = false := by simp [k1]
    clear k1
    go_upto_region 73 with (fail)
    clear t1
    by_cases k2 : x.k = 2
    case pos =>
      have t1 : (x.k == 2) = true := by simp [k2]
      clear k2
      go_wp2_with (fail)
      refine wp_mono (P2.out v L M va R X Y i o _ w9 { s := ⟨rfl, rfl, rfl, rfl, rfl, rfl, rfl, rfl, rfl⟩, t19 := rfl, t20 := rfl, t21 := rfl, t28 := rfl, t29 := rfl, t30 := rfl, t31 := rfl, run := R9.out, few := FEW.out.1, k60 := FEW.out.2, r := HR9.out, hx := HX9.out, hy := HY9.out, ne := NE.out, ok := XOK.out, ii := II.out, io := IO.out } K0.out) ?_
      rintro e A w10 hh
      cases e with
      | normal =>
        obtain ⟨T10, df⟩ := A
        obtain ⟨hd, v', va', L', M', c, lg, X', Y', s10, e28, e29, e30, e31, run, few, lok, hX, hY⟩ := hh
        dsimp only at hd s10 e28 e29 e30 e31
        subst hd
        exact MIDH.out T10 w10 v' L' M' va' X' Y' c lg s10 e28 e29 e30 e31 run few lok hX hY
      | _ => exact hh.elim
    have t1 : (x.k == 2) = false := by simp [k2]
    clear k2
    go_upto_region 82 with (fail)
    clear t1
    by_cases k3 : x.k = 3
    case pos =>
      have t1 : (x.k == 3) = true := by simp [k3]
      clear k3
      go_wp2_with (fail)
      refine wp_mono (P3.out v L M va R X Y i o _ w9 { s := ⟨rfl, rfl, rfl, rfl, rfl, rfl, rfl, rfl, rfl⟩, t19 := rfl, t20 := rfl, t21 := rfl, t28 := rfl, t29 := rfl, t30 := rfl, t31 := rfl, run := R9.out, few := FEW.out.1, k60 := FEW.out.2, r := HR9.out, hx := HX9.out, hy := HY9.out, ne := NE.out, ok := XOK.out, ii := II.out, io := IO.out } K0.out) ?_
      rintro e A w10 hh
      cases e with
      | normal =>
        obtain ⟨T10, df⟩ := A
        obtain ⟨hd, v', va', L', M', c, lg, X', Y', s10, e28, e29, e30, e31, run, few, lok, hX, hY⟩ := hh
        dsimp only at hd s10 e28 e29 e30 e31
        subst hd
        exact MIDH.out T10 w10 v' L' M' va' X' Y' c lg s10 e28 e29 e30 e31 run few lok hX hY
      | _ => exact hh.elim
    have t1 : (x.k == 3) = false := by simp [k3]
    clear k3
    go_wp2_with (fail)
    exact MIDH.out _ _ v L M va X Y 0 lz ⟨rfl, rfl, rfl, rfl, rfl, rfl, rfl, rfl, rfl⟩ rfl rfl rfl rfl R9.out (Nat.le_succ_of_le FEW.out.1) lz_ok HX9.out.1.1 HY9.out.1.1
  | _ => exact hh.elim
end Go.Proofs.YthccjefhlmngbaaDoor

/- The walk of the statement EdgeRuns. -/
namespace Go.Proofs.YthccjefhlmngbaaDoor
open Go.RowKit

def lwF (C : Code) : Nat → Option Code
  | 19 => some C
  | _ => none
noncomputable def lwX (C : Code) : Code := putS (lwF C) (Tryd.f5.body.getD .skip)
def LpI (w0 : World) (eb tb mb t2 m2 : Nat) (dl : Int) (B nq : Nat) (qv sv : Value) (sl : Nat) (A : Act) (w : World) : Prop :=
  ∃ k : Nat, A.defers = [] ∧ k ≤ sl ∧ k ≤ 60 ∧ RndI w0 eb tb mb t2 m2 dl B nq qv sv k A.tmps w
set_option maxRecDepth 1000000 in
set_option maxHeartbeats 16000000 in
theorem lawERuns (dl : Int) (qa : Option Addr) (ql qc : Nat) (qs : List Qd) (sa : Option Addr) (sl sc : Nat) (es : List Ed) (_hd : (Lit.int .i64 dl).wf = true) (w : World) (hq : Qds w qa ql qc qs) (hs : Eds w sa sl sc es) (ht : Tabs w) :
    Calls Tryd.prog 5 #[.int .i64 dl, .slice qa ql qc, .slice sa sl sc] w fun e w' => e = .returned (.bool true) ∧ Below w.heap.size w w' := by
  have HT := hid ht
  have HQ := hid hq
  have HS := hid hs
  have qlen := hid hq.2.1.2.1
  have slen := hid hs.2.1.2.1
  clear ht hq hs
  go_enter Tryd.func5, Tryd.ntmps5
  have e : Tryd.f5.body.getD .skip = lwX (rnP 19) := by kernel_rfl
  refine (show Code.wp _ (Tryd.f5.body.getD .skip) _ _ _ from ?_)
  rw [e]
  have PR := hid (fun (eb tb mb t2 m2 B nq : Nat) (v : Value) (L : List Fw) (M : QM) (va : Value) (k : Nat) (T : Array Value) (wx : World) (s : RSl dl (.slice qa ql qc) (.slice sa sl sc) tb t2 eb va k T) (run : RunJ w wx eb tb mb t2 m2 dl B nq v L M va L M) (few : L.length ≤ k) (k60 : k < 60) (hk : k < sl) (hq : ql ≤ 6) (hdl : 0 ≤ dl ∧ dl ≤ 1073741824) => roundC s run few k60 hk HS.out HT.out hq hdl)
  generalize hC : rnP 19 = C19 at *
  clear e
  conv => arg 2; unfold lwX; arg 2; whnf
  simp only [putS, firstR, lwF, Option.bind_some, Option.bind_none, Option.getD_some, Option.getD_none]
  go_wp2_with (fail)
  refine (ehead_walk w HT.out).mono ?_
  rintro e w1 ⟨rfl, b1⟩
  have B1 := hid b1
  clear b1
  by_cases hl : ql ≤ 6
  case neg =>
    have t1 : decide (6 < ql) = true := decide_eq_true (by omega)
    have t2 : decide ((ql : Int) > 6) = true := decide_eq_true (by omega)
    have t3 : decide (6 < (ql : Int)) = true := decide_eq_true (by omega)
    go_wp2
    go_ret
    exact ⟨rfl, B1.out⟩
  have t1 : decide (6 < ql) = false := decide_eq_false (by omega)
  have t2 : decide ((ql : Int) > 6) = false := decide_eq_false (by omega)
  have t3 : decide (6 < (ql : Int)) = false := decide_eq_false (by omega)
  have HL := hid hl
  go_upto_region 5 with (fail)
  clear t1 t2 t3 hl
  go_wp2_with (fail)
  refine (quotes_walk qa ql qc qs (by have := HL.out; omega) w1 (HQ.out.below B1.out)).mono ?_
  rintro e w2 ⟨tb, mb, rfl, t2', l1, l2, b2⟩
  have F2 := hid (And.intro l1 l2)
  have T2 := hid t2'
  have B2 := hid (bstep B1.out b2)
  have tb2 := hid (World.block_lt_of_cell? w2 _ t2'.cell)
  have mb2 := hid t2'.map.lt
  have LW := hid (show w.heap.size ≤ w1.heap.size from B1.out.size)
  clear t2' l1 l2 b2
  go_wp2_with (fail)
  refine (quotes_walk qa ql qc qs (by have := HL.out; omega) w2 (HQ.out.below B2.out)).mono ?_
  rintro e w3 ⟨ub, nb, rfl, t3', l3, l4, b3⟩
  have F3 := hid (And.intro l3 l4)
  have U3 := hid t3'
  have T3 := hid (T2.out.below b3)
  have B3 := hid (bstep B2.out b3)
  have ub3 := hid (World.block_lt_of_cell? w3 _ t3'.cell)
  have nb3 := hid t3'.map.lt
  have LW3 := hid (show w2.heap.size ≤ w3.heap.size from b3.size)
  clear t3' l3 l4 b3 T2
  generalize (quS 0 qs (fun _ => none) 0).2 = nq at *
  generalize (quS 0 qs (fun _ => none) 0).1 = M0 at *
  by_cases hdl : 0 ≤ dl ∧ dl ≤ 1073741824
  case neg =>
    go_wp2_with (fail)
    refine (enew_bad dl (by omega) tb w3).mono ?_
    rintro e w4 ⟨rfl, rfl⟩
    have bz := bhz
    have bL := bzL
    have ZL := zeroL
    have zia := hid (show (Tryd.prog.info? 42).map (·.size) = some zL.size by rw [zL_size]; exact infoL)
    have zio := hid (show zL.all (·.oneCell') = true from all_oneCell_toArray (Lg.one lz))
    clear PR F2 F3 U3 T3 tb2 mb2 ub3 nb3 LW LW3 B2 B1
    by_cases n0 : dl < 0
    case' pos =>
      have t1 : decide (dl < 0) = true := decide_eq_true n0
      go_upto_region 9 with (fail)
    case' neg =>
      have t1 : decide (dl < 0) = false := decide_eq_false n0
      have t4 : decide (dl > 1073741824) = true := decide_eq_true (by omega)
      have t5 : decide (1073741824 < dl) = true := decide_eq_true (by omega)
      go_upto_region 9 with (fail)
    all_goals
      go_wp2_with (with_reducible refine wpList_mk0 bz ?_)
      refine (settled_nil 0 0 _ _).mono ?_
      rintro e w5 ⟨rfl, b5⟩
      have B5 := hid (bstep B3.out b5)
      clear b5
      go_upto_region 10 with (first | (with_reducible refine wpList_var zL zL ZL zia (hid rfl) zio rfl rfl ?_; intro w6 hI hb6))
      have B6 := hid (bstep B5.out hb6)
      clear hI hb6
      go_wp2_with (fail)
      refine (given_nil 0 0 w6).mono ?_
      rintro e w7 ⟨rfl, b7⟩
      have B7 := hid (bstep B6.out b7)
      clear b7
      go_upto_region 11 with (first | (with_reducible refine wpList_var zL zL ZL zia (hid rfl) zio rfl rfl ?_; intro w8 hI hb8))
      have B8 := hid (bstep B7.out hb8)
      clear hI hb8
      go_wp2_with (fail)
      refine (enew_nil 0 w8).mono ?_
      rintro e w9 ⟨rfl, rfl⟩
      go_upto_region 12 with (fail)
      go_wp2_with (first | with_reducible refine wpList_mk0G bL rfl ?_ | with_reducible refine wpList_mk0G bz rfl ?_)
      refine (hand_nil _ _ _ 0 _).mono ?_
      rintro e w10 ⟨rfl, b10⟩
      have B10 := hid (bstep B8.out b10)
      clear b10
      go_wp2_with (fail)
      refine (close_nil 0 0 _).mono ?_
      rintro e w11 ⟨rfl, rfl⟩
      go_wp2_with (fail)
      refine (eall_nil _).mono ?_
      rintro e w12 ⟨rfl, rfl⟩
      go_wp2_with (fail)
      go_ret
      exact ⟨rfl, B10.out⟩
  have DL := hid hdl
  go_wp2_with (fail)
  refine (enew_walk dl hdl.1 hdl.2 tb mb nq M0 w3 T3.out).mono ?_
  rintro e w4 ⟨rfl, s4, b4, z4⟩
  have F4 := hid (show w4.heap.size = w3.heap.size + 1 from z4)
  have n1 : decide (dl < 0) = false := decide_eq_false (by omega)
  have n2 : decide (dl > 1073741824) = false := decide_eq_false (by omega)
  have n3 : decide (1073741824 < dl) = false := decide_eq_false (by omega)
  have S4 := hid (show Ses w.heap.size w w4 w3.heap.size tb mb dl w4.heap.size (.slice none 0 0) [] M0 nq from ⟨s4, bstep B3.out b4, by have := B3.out.size; have := F2.out; have := LW.out; have := b4.size; omega⟩)
  have U4 := hid (U3.out.below b4)
  clear s4 b4 z4 U3 T3 hdl B1 B2 B3
  go_upto_region 16 with (fail)
  clear n1 n2 n3
  have own5 := own_bare (heap_alloc_new w4 (.cells #[] 62)) (B := w4.heap.size) (Nat.le_refl _)
  have b5 := (Below.refl w4.heap.size w4).alloc (Nat.le_refl _) (.cells #[] 62)
  have R5 := hid (show RunJ w (w4.alloc (.cells #[] 62)) w3.heap.size tb mb ub nb dl w4.heap.size nq (.slice none 0 0) [] M0 (.slice (some ⟨w4.heap.size, 0, none⟩) 0 0) [] M0 from
    ⟨S4.out.below b5, U4.out.below b5, own5, (fun g _ e => by cases e), by have := F2.out; have := F3.out; have := tb2.out; have := mb2.out; have := ub3.out; have := nb3.out; have := LW.out; have := LW3.out; have := F4.out; omega⟩)
  clear own5 b5 S4 U4 F2 F3 tb2 mb2 ub3 nb3 LW LW3 F4
  go_upto_region 17 with (fail)
  refine wp_loop (LpI w w3.heap.size tb mb ub nb dl w4.heap.size nq (.slice qa ql qc) (.slice sa sl sc) sl) (fun A _ => 60 - (intOf (tm A.tmps 18)).toNat) ⟨0, rfl, by omega, by omega, _, _, [], M0, ⟨rfl, rfl, rfl, rfl, rfl, rfl, rfl, rfl, rfl⟩, R5.out, by simp⟩ ?_
  rintro ⟨T, df⟩ wr ⟨k, hd, hk, hk60, v, va, L, M, s, run, few⟩
  dsimp only at hd s
  subst hd
  have RUN := hid run
  have FEW := hid few
  have E18 := hid s.t18
  show Code.wp _ _ _ ⟨T, []⟩ wr
  rw [frameR s.size, s.t0, s.t1, s.t02, s.t7, s.t8, s.t9, s.t17, s.t18]
  clear s run few R5
  by_cases hlt : k < sl
  case neg =>
    have t1 : decide (k < sl) = false := decide_eq_false hlt
    go_wp2
    go_ret
    exact ⟨rfl, RUN.out.ses.b⟩
  by_cases h60 : k < 60
  case neg =>
    have t1 : decide (k < sl) = true := decide_eq_true hlt
    have t2 : decide (k < 60) = false := decide_eq_false h60
    have t3 : decide ((k : Int) < 60) = false := decide_eq_false (by omega)
    go_wp2
    go_ret
    exact ⟨rfl, RUN.out.ses.b⟩
  have t1 : decide (k < sl) = true := decide_eq_true hlt
  have t2 : decide (k < 60) = true := decide_eq_true h60
  have t3 : decide ((k : Int) < 60) = true := decide_eq_true (by omega)
  go_wp2_with (fail)
  refine wp_mono (PR.out w3.heap.size tb mb ub nb w4.heap.size nq v L M va k _ wr ⟨rfl, rfl, rfl, rfl, rfl, rfl, rfl, rfl, rfl⟩ RUN.out FEW.out h60 hlt HL.out DL.out) ?_
  rintro e A w6 hh
  cases e with
  | normal =>
    obtain ⟨T6, df⟩ := A
    obtain ⟨hd, v', va', L', M', s6, run', few'⟩ := hh
    dsimp only at hd s6
    subst hd
    refine ⟨⟨k + 1, rfl, by omega, by omega, v', va', L', M', s6, run', few'⟩, ?_⟩
    show 60 - (intOf (tm T6 18)).toNat < 60 - ((k : Int)).toNat
    rw [s6.t18]
    simp only [intOf]
    omega
  | _ => exact hh.elim
end Go.Proofs.YthccjefhlmngbaaDoor

/- EdgeRuns for the frame. -/
namespace Go.Proofs.YthccjefhlmngbaaDoor
open Go.ChangeShapes Go.WideShapes Go.ChangeAt Go.RowKit

theorem lawERuns' (dl : Int) (qa : Option Addr) (qn qc : Nat) (xs : List OQ) (sa : Option Addr) (sn sc : Nat) (es : List OE) (hd : (Lit.int .i64 dl).wf = true) (w : World) (n1 : xs.length = qn) (g1 : SLo.good w 37 72 OQ.cells (fun _ => True) ⟨qa, qc, xs⟩)
    (n2 : es.length = sn) (g2 : SLo.good w 206 304 OE.cells (fun _ => True) ⟨sa, sc, es⟩) (ht : Tabs w) :
    Calls Tryd.prog 5 #[.int .i64 dl, .slice qa qn qc, .slice sa sn sc] w fun e w' => e = .returned (.bool true) ∧ Below w.heap.size w w' := by
  subst n1 n2
  exact lawERuns dl qa xs.length qc (xs.map (·.1)) sa es.length sc (es.map (·.1)) hd w (qds_of g1) (eds_of g2) ht
end Go.Proofs.YthccjefhlmngbaaDoor
