/- TableRuns: a step. -/
import Derived.Test.YtibjkpejbihcpaaTabU0
namespace Go.Proofs.Ytibjkpejbihcpaa
open Go.RowKit

/-- where a number stands among the first k -/
def AtK (L : List Quo) (x : List Nat) (k : Nat) (at' : Int) : Prop := (at' = -1 ∧ ∀ m q, m < k → L[m]? = some q → q.no ≠ x) ∨ ∃ (j : Nat) (q : Quo), at' = (j : Int) ∧ j < k ∧ L[j]? = some q ∧ q.no = x
theorem AtK.zero {L : List Quo} {x : List Nat} : AtK L x 0 (-1) := .inl ⟨rfl, fun m q h => by omega⟩
theorem AtK.yes {L : List Quo} {x : List Nat} {k : Nat} {q : Quo} (hq : L[k]? = some q) (h : q.no = x) : AtK L x (k + 1) (k : Int) := .inr ⟨k, q, rfl, by omega, hq, h⟩
theorem AtK.no {L : List Quo} {x : List Nat} {k : Nat} {at' : Int} {q : Quo} (hq : L[k]? = some q) (h : q.no ≠ x) (r : AtK L x k at') : AtK L x (k + 1) at' := by
  rcases r with ⟨e, r⟩ | ⟨j, p, e, hj, r⟩
  · refine .inl ⟨e, fun m p hm hp => ?_⟩
    by_cases he : m = k
    · subst he; rw [hq] at hp; cases hp; exact h
    · exact r m p (by omega) hp
  · exact .inr ⟨j, p, e, by omega, r⟩
theorem AtK.done {M : QM} {n : Nat} {L : List Quo} {x : List Nat} {at' : Int} (h : TL M n L) (r : AtK L x n at') : (at' = -1 ∧ AtL M L x at' qz) ∨ ∃ (j : Nat) (q : Quo), at' = (j : Int) ∧ j < n ∧ L[j]? = some q ∧ AtL M L x at' q := by
  rcases r with ⟨e, r⟩ | ⟨j, q, e, hj, hq, hn⟩
  · refine .inl ⟨e, .inl ⟨e, ?_, rfl⟩⟩
    rw [h.eq]
    refine lookL_none fun q hq => ?_
    obtain ⟨m, hm⟩ := List.getElem?_of_mem hq
    exact r m q (by have := (List.getElem?_eq_some_iff.1 hm).1; have := h.len; omega) hm
  · refine .inr ⟨j, q, e, hj, hq, .inr ⟨j, e, hq, hn, ?_⟩⟩
    rw [← hn]; exact h.get (List.mem_of_getElem? hq)
/-- ahead of a round -/
structure LoopI (w0 : World) (B tb mb : Nat) (a : Option Addr) (l cap : Nat) (i : Nat) (T : Array Value) (w : World) : Prop where
  size : T.size = 397
  t0 : tm T 0 = .slice a l cap
  t3 : tm T 3 = .pointer (some ⟨tb, 0, none⟩)
  t5 : tm T 5 = .int .i64 (i : Int)
  held : ∃ (M : QM) (n : Nat) (L : List Quo), TabAt w tb mb M n ∧ TL M n L ∧ w.ownsRow B 43 71 (tm T 4) n (L.flatMap Quo.cells) ∧ n ≤ i
  bel : Below w0.heap.size w0 w
  lo : w0.heap.size ≤ mb ∧ w0.heap.size ≤ B ∧ mb < B ∧ tb < B ∧ B ≤ w.heap.size
  il : i ≤ l
  i80 : i ≤ 80
def StepO (w0 : World) (B tb mb : Nat) (a : Option Addr) (l cap : Nat) (i : Nat) : Exit → Act → World → Prop
  | .normal, A, w => A.defers = [] ∧ LoopI w0 B tb mb a l cap (i + 1) A.tmps w
  | _, _, _ => False
/-- ahead of a step -/
structure StepI (w0 : World) (B tb mb : Nat) (a : Option Addr) (l cap : Nat) (ls : List Stp) (i : Nat) (M : QM) (n : Nat) (L : List Quo) (T : Array Value) (w : World) : Prop where
  sit : SitM w0 B tb mb a l cap ls i M n L T w
  less : n ≤ i
  il : i < l
  steps : Stps w0 a l cap ls
theorem StepI.armed {w0 : World} {B tb mb : Nat} {a : Option Addr} {l cap : Nat} {ls : List Stp} {i : Nat} {M : QM} {n : Nat} {L : List Quo} {T T' : Array Value} {w w' : World} {x : Stp} {at' : Int} {q : Quo} {G R : Nat} {v4 : Value} (h : StepI w0 B tb mb a l cap ls i M n L T w)
    (hs : w'.heap[G]? = some (.cells x.cells.toArray 38 (0, 0))) (hx : x.ok) (hq : w'.heap[R]? = some (.cells q.cells.toArray 43 (0, 0))) (hqo : q.ok) (ho : w'.ownsRow B 43 71 v4 n (L.flatMap Quo.cells)) (_e4 : v4 = tm T 4)
    (gr : B ≤ G ∧ B ≤ R ∧ G ≠ R ∧ ∀ g, Value.ownBlock v4 = some g → g ≠ G ∧ g ≠ R) (hb : Below w.heap.size w w') (hal : AtL M L x.no at' q) (size : T'.size = 397) (e0 : tm T' 0 = .slice a l cap) (e3 : tm T' 3 = .pointer (some ⟨tb, 0, none⟩)) (e4 : tm T' 4 = v4) (e5 : tm T' 5 = .int .i64 (i : Int))
    (e6 : tm T' 6 = .pointer (some ⟨G, 0, none⟩)) (e7 : tm T' 7 = .int .i64 at') (e9 : tm T' 9 = .pointer (some ⟨R, 0, none⟩)) (e10 : tm T' 10 = .int .i64 0) (e11 : tm T' 11 = .int .i64 0) : ArmI w0 B tb mb a l cap ls i M n L x at' q G R T' w' :=
  ⟨⟨size, e0, e3, e5, h.sit.tab.below hb, h.sit.tl, by rw [e4]; exact ho, bstep h.sit.bel hb, ⟨h.sit.lo.1, h.sit.lo.2.1, h.sit.lo.2.2.1, h.sit.lo.2.2.2.1, Nat.le_trans h.sit.lo.2.2.2.2 hb.size⟩, ⟨by have := h.less; omega, h.sit.few.2⟩⟩, h.less, e6, hs, hx, e7, hal, hqo, e9, hq, e10, e11, by rw [e4]; exact gr⟩
def stF (X Y : Code) : Nat → Option Code
  | 21 => some X
  | 7 => some Y
  | _ => none
noncomputable def stX (X Y : Code) : Code := putS (stF X Y) (runC 8)
set_option maxRecDepth 1000000 in
set_option maxHeartbeats 16000000 in
theorem incC {w0 : World} {B tb mb : Nat} {a : Option Addr} {l cap : Nat} {ls : List Stp} {i : Nat} {A : Act} {w : World} (h : TailO w0 B tb mb a l cap ls i .normal A w) (hil : i < l) : (runC 7).wp Try.prog (StepO w0 B tb mb a l cap i) A w := by
  obtain ⟨T, df⟩ := A
  obtain ⟨_, hd, M, n, L, s⟩ := h
  dsimp only at hd s
  subst hd
  have H := hid s
  have e0 := s.t0
  have e3 := s.t3
  have e5 := s.t5
  obtain ⟨v4, e4⟩ : ∃ v4, tm T 4 = v4 := ⟨_, rfl⟩
  rw [frameT s.size, e0, e3, e4, e5]
  have own1 := hid (e4 ▸ s.own)
  have i80 := s.few.2
  clear e0 e3 e4 e5 s
  conv => arg 2; whnf
  go_wp2_with (fail)
  exact ⟨rfl, rfl, rfl, rfl, by go_num, ⟨M, n, L, H.out.tab, H.out.tl, own1.out, H.out.few.1⟩, H.out.bel, H.out.lo, hil, by omega⟩
set_option maxRecDepth 1000000 in
set_option maxHeartbeats 16000000 in
theorem stepX {w0 : World} {B tb mb : Nat} {a : Option Addr} {l cap : Nat} {ls : List Stp} {i : Nat} {M : QM} {n : Nat} {L : List Quo} {T : Array Value} {w : World} (h : StepI w0 B tb mb a l cap ls i M n L T w) (X Y : Code) (HY : ∀ (A : Act) (w' : World), TailO w0 B tb mb a l cap ls i .normal A w' → Y.wp Try.prog (StepO w0 B tb mb a l cap i) A w')
    (HX : ∀ (x : Stp) (at' : Int) (q : Quo) (G R : Nat) (T' : Array Value) (w' : World), ArmI w0 B tb mb a l cap ls i M n L x at' q G R T' w' → X.wp Try.prog (TailO w0 B tb mb a l cap ls i) ⟨T', []⟩ w') : (stX X Y).wp Try.prog (StepO w0 B tb mb a l cap i) ⟨T, []⟩ w := by
  have H := hid h
  have e0 := h.sit.t0
  have e3 := h.sit.t3
  have e5 := h.sit.t5
  obtain ⟨v4, e4⟩ : ∃ v4, tm T 4 = v4 := ⟨_, rfl⟩
  have E4 := hid e4.symm
  rw [frameT h.sit.size, e0, e3, e4, e5]
  have own1 := hid (e4 ▸ h.sit.own)
  obtain ⟨ad, c4, rfl, _⟩ := Rd.of_owns own1.out
  have own0 := hid own1.out
  have lo := hid h.sit.lo
  have few := h.sit.few
  have less := h.less
  have lenL := hid h.sit.tl.len
  have il := h.il
  have S0 := h.steps
  obtain ⟨x, hx⟩ : ∃ x, ls[i]? = some x := ⟨ls[i]'(by have := S0.1; omega), List.getElem?_eq_getElem _⟩
  have XOK := hid (S0.2.2 x (List.mem_of_getElem? hx))
  obtain ⟨bS, offS, hbS, row⟩ := (S0.below h.sit.bel).row hx
  subst hbS
  have unS := Try.underlying38
  have hsi := hid (infoSa XOK.out)
  have hsl := hid (infoSl XOK.out)
  have hsz := hid (zS_as XOK.out)
  have hso := hid (all_oneCell_toArray (Stp.one x))
  have ZS := zeroS
  have hneS := zS_ne
  have LA := laid w zS x.cells.toArray 38
  have til : decide (i < l) = true := decide_eq_true il
  clear e0 e3 e4 e5 h hx S0
  conv => arg 2; unfold stX; arg 2; whnf
  simp only [putS, firstR, stF, Option.bind_some, Option.bind_none, Option.getD_some, Option.getD_none]
  go_upto_region 9 with (first | refine wpList_load_mid rfl _ _ rfl bS (offS + i * 71) rfl x.cells _ row unS rfl hsl.out ?_ | (with_reducible refine wpList_store_row rfl _ _ _ rfl w.heap.size x.cells.toArray rfl rfl _ _ (heap_alloc_new w _) hsi.out hsz.out hso.out ?_; generalize (w.alloc (Obj.cells zS 38)).setRow w.heap.size x.cells.toArray = w1 at *))
  have HS := hid LA.1
  have B1 := hid LA.2
  have glt := hid (Array.getElem?_eq_some_iff.1 LA.1).1
  obtain ⟨G, hG⟩ : ∃ G, G = w.heap.size := ⟨_, rfl⟩
  rw [← hG] at HS glt ⊢
  have HG := hid hG
  clear LA row hG ZS hneS hsi hsl hsz hso
  have own2 := hid (own_below own1.out B1.out)
  clear own1
  have unQ := Try.underlying43
  have un := Try.underlying30
  have n80 : n ≤ 80 := by omega
  have fx := hid (show w1.rangeAt G 1 (nums .u8 x.no) by have f1 := gen_range (row_range HS.out) 1 32; rwa [Stp.no_at XOK.out] at f1)
  have hxl := hid (show (Try.prog.info? 30).map (·.size) = some (nums .u8 x.no).length by rw [nums_length, XOK.out.nl]; exact infoH)
  go_upto_region 11 with (fail)
  go_loopw [7, 45] (fun x7 x45 wr => ∃ (k : Nat) (at' : Int), k ≤ n ∧ x45 = .int .i64 (k : Int) ∧ x7 = .int .i64 at' ∧ AtK L x.no k at' ∧ Below w1.heap.size w1 wr) (fun _ x45 _ => n - (intOf x45).toNat)
  case atStart => exact ⟨0, -1, by omega, rfl, rfl, AtK.zero, Below.refl _ _⟩
  case round =>
    obtain ⟨j, at', hj, rfl, rfl, hat, hb⟩ := hrel
    have HB := hid hb
    have HAT := hid hat
    clear hb hat
    by_cases hlt : j < n
    · obtain ⟨p, hp⟩ : ∃ p, L[j]? = some p := ⟨L[j]'(by rw [lenL.out]; omega), List.getElem?_eq_getElem _⟩
      have pok := hid (H.out.sit.tl.ok p (List.mem_of_getElem? hp))
      have HP := hid hp
      obtain ⟨g, c5, e5⟩ := own_slice own2.out (by omega)
      simp only [Value.slice.injEq, true_and] at e5
      obtain ⟨rfl, rfl⟩ := e5
      have row := range_keep HB.out (own_quote own2.out H.out.sit.tl.ok hp)
      have fp : wr.rangeAt g (j * 71) (nums .u8 p.no) := fun k v hk => row k v (by rw [Quo.no_front]; exact front_get hk)
      have fx' := range_keep HB.out fx.out
      have hpl := hid (show (Try.prog.info? 30).map (·.size) = some (nums .u8 p.no).length by rw [nums_length, pok.out.nl]; exact infoH)
      have tlt : decide (j < n) = true := decide_eq_true hlt
      have j80 : j < 80 := by omega
      have eq := eql_hv (xs := p.no) (ys := x.no) pok.out.nl XOK.out.nl pok.out.nb XOK.out.nb
      have eg := guard_hv p.no x.no
      unfold hv at eq eg
      obtain ⟨bb, hbb⟩ : ∃ bb, decide (p.no = x.no) = bb := ⟨_, rfl⟩
      rw [hbb] at eq
      have HBB := hid hbb
      clear hp row hbb
      go_upto_region 13 with (fail)
      refine wp_region_held_drew (S := fun w' => w'.rangeAt g (j * 71) (nums .u8 p.no) ∧ w'.rangeAt G 1 (nums .u8 x.no)) (by kernel_rfl) (⟨fp, fx'⟩) (fun hHeld => ?_)
      try simp only [List.size_toArray, List.length_cons, List.length_nil, Nat.reduceAdd, Array.replicate_succ, Array.replicate_zero, List.push_toArray, List.nil_append, List.cons_append]
      refine wpAnyH_take (i := 0) (oi := { dst := some 48, op := Op.move (Operand.tmp 4), type := 57, pos := "law.go:71", after := #[], guard := none }) (v := ?v1) rfl (by kernel_rfl) (by kernel_rfl) (by kernel_rfl) (fun _ _ _ h => h) (Or.inl ⟨by rfl, ?hy1⟩) hHeld ?_
      case hy1 => (intro w hSw; (try dsimp only at hSw); go_simp; (try with_reducible rfl))
      (try simp only [Act.put, List.setIfInBounds_toArray, List.set_cons_zero, List.set_cons_succ])
      refine wpAnyH_take (i := 1) (oi := { dst := some 49, op := Op.move (Operand.tmp 8), type := 3, pos := "law.go:71", after := #[], guard := none }) (v := ?v2) rfl (by kernel_rfl) (by kernel_rfl) (by kernel_rfl) (fun _ _ _ h => h) (Or.inl ⟨by rfl, ?hy2⟩) hHeld ?_
      case hy2 => (intro w hSw; (try dsimp only at hSw); go_simp; (try with_reducible rfl))
      (try simp only [Act.put, List.setIfInBounds_toArray, List.set_cons_zero, List.set_cons_succ])
      refine wpAnyH_take (i := 2) (oi := { dst := some 50, op := Op.indexAddr 57 (Operand.tmp 48) (Operand.tmp 49), type := 0, pos := "law.go:71", after := #[{ on := 0, ground := Ground.data }, { on := 1, ground := Ground.data }], guard := none }) (v := ?v3) rfl (by kernel_rfl) (by kernel_rfl) (by kernel_rfl) (fun _ _ _ h => h) (Or.inl ⟨by rfl, ?hy3⟩) hHeld ?_
      case hy3 => (intro w hSw; (try dsimp only at hSw); go_simp; (try with_reducible rfl))
      (try simp only [Act.put, List.setIfInBounds_toArray, List.set_cons_zero, List.set_cons_succ])
      refine wpAnyH_take (i := 3) (oi := { dst := some 51, op := Op.fieldAddr 43 (Operand.tmp 50) 0, type := 0, pos := "law.go:71", after := #[{ on := 2, ground := Ground.data }], guard := none }) (v := ?v4) rfl (by kernel_rfl) (by kernel_rfl) (by kernel_rfl) (fun _ _ _ h => h) (Or.inl ⟨by rfl, ?hy4⟩) hHeld ?_
      case hy4 => (intro w hSw; (try dsimp only at hSw); go_simp; (try with_reducible rfl))
      (try simp only [Act.put, List.setIfInBounds_toArray, List.set_cons_zero, List.set_cons_succ])
      refine' wpAnyH_take (i := 4) (oi := { dst := some 52, op := Op.load 30 (Operand.tmp 51), type := 30, pos := "law.go:71", after := #[{ on := 3, ground := Ground.data }], guard := none }) (v := _) rfl (by kernel_rfl) (by kernel_rfl) (by kernel_rfl) (fun _ _ _ h => h) (yieldsIf_load_mid (by rfl) _ _ rfl g (j * 71) rfl (nums .u8 p.no) _ (fun _ h => h.1) un rfl hpl.out) hHeld ?_
      (try simp only [Act.put, List.setIfInBounds_toArray, List.set_cons_zero, List.set_cons_succ])
      refine wpAnyH_take (i := 5) (oi := { dst := some 53, op := Op.fieldAddr 38 (Operand.tmp 6) 1, type := 0, pos := "law.go:71", after := #[], guard := none }) (v := ?v5) rfl (by kernel_rfl) (by kernel_rfl) (by kernel_rfl) (fun _ _ _ h => h) (Or.inl ⟨by rfl, ?hy5⟩) hHeld ?_
      case hy5 => (intro w hSw; (try dsimp only at hSw); go_simp; (try with_reducible rfl))
      (try simp only [Act.put, List.setIfInBounds_toArray, List.set_cons_zero, List.set_cons_succ])
      refine' wpAnyH_take (i := 6) (oi := { dst := some 54, op := Op.load 30 (Operand.tmp 53), type := 30, pos := "law.go:71", after := #[{ on := 5, ground := Ground.data }], guard := none }) (v := _) rfl (by kernel_rfl) (by kernel_rfl) (by kernel_rfl) (fun _ _ _ h => h) (yieldsIf_load_mid (by rfl) _ _ rfl G 1 rfl (nums .u8 x.no) _ (fun _ h => h.2) un rfl hxl.out) hHeld ?_
      (try simp only [Act.put, List.setIfInBounds_toArray, List.set_cons_zero, List.set_cons_succ])
      refine wpAnyH_take (i := 7) (oi := { dst := some 55, op := Op.binOp BinOp.eql 30 (Operand.tmp 52) (Operand.tmp 54) 30, type := 4, pos := "law.go:71", after := #[{ on := 4, ground := Ground.data }, { on := 6, ground := Ground.data }], guard := none }) (v := ?v6) rfl (by kernel_rfl) (by kernel_rfl) (by kernel_rfl) (fun _ _ _ h => h) (Or.inl ⟨by rfl, ?hy6⟩) hHeld ?_
      case hy6 => (intro w hSw; (try dsimp only at hSw); go_simp; (try with_reducible rfl))
      (try simp only [Act.put, List.setIfInBounds_toArray, List.set_cons_zero, List.set_cons_succ])
      refine wpAnyH_done (by kernel_rfl) ?_ _
      rotate_left
      have hbd := HB.out.drew
      clear fp fx'
      clear eq eg
      cases bb with
      | true =>
        have HAT2 := hid (AtK.yes HP.out (of_decide_eq_true HBB.out))
        go_wp2_with (fail)
        go_roundw
        case rel => exact ⟨j + 1, (j : Int), by omega, by go_num, rfl, HAT2.out, hbd⟩
        case measure => simp [intOf]; omega
      | false =>
        have HAT2 := hid (AtK.no HP.out (of_decide_eq_false HBB.out) HAT.out)
        go_wp2_with (fail)
        go_roundw
        case rel => exact ⟨j + 1, at', by omega, by go_num, rfl, HAT2.out, hbd⟩
        case measure => simp [intOf]; omega
    · obtain rfl : j = n := by omega
      have HS2 := hid (heap_keep HS.out HB.out)
      have own3 := hid (own_below own2.out HB.out)
      have B3 := hid (bstep B1.out HB.out)
      have ZQ := zeroQ
      have hneQ := zQ_ne
      have hz71 := hid (show (Try.prog.info? 43).map (·.size) = some zQ.size by rw [zQ_size]; exact infoQ)
      have hzo := hid (all_oneCell_toArray (Quo.one qz))
      have LA := laid wr zQ zQ 43
      have gl2 := hid (Array.getElem?_eq_some_iff.1 HS2.out).1
      clear hlt
      go_upto_region 17 with (refine wpList_store_row rfl _ _ _ rfl wr.heap.size zQ rfl rfl _ _ (heap_alloc_new wr _) hz71.out rfl hzo.out ?_; generalize (wr.alloc (Obj.cells zQ 43)).setRow wr.heap.size zQ = w2 at *)
      have HQ := hid LA.1
      have B4 := hid LA.2
      have HS3 := hid (heap_keep HS2.out LA.2)
      have own4 := hid (own_below own3.out LA.2)
      obtain ⟨R, hR⟩ : ∃ R, R = wr.heap.size := ⟨_, rfl⟩
      rw [← hR] at HQ ⊢
      have HR := hid hR
      have ws := hid LA.2.size
      clear LA hR ZQ hneQ own3 HS2
      have GR := hid (show B ≤ G ∧ B ≤ R ∧ G ≠ R ∧ ∀ g, Value.ownBlock (.slice ad j c4) = some g → g ≠ G ∧ g ≠ R from by
        have h1 := lo.out
        have h2 := B3.out.size
        have h3 := gl2.out
        refine ⟨by rw [HG.out]; omega, by rw [HR.out]; omega, by rw [HR.out]; omega, fun g hg => ?_⟩
        have h4 := (own0.out.lt g hg).2
        exact ⟨by rw [HG.out]; omega, by rw [HR.out]; omega⟩)
      have BT := hid (bstep B3.out B4.out)
      rcases AtK.done H.out.sit.tl HAT.out with ⟨rfl, hAL⟩ | ⟨m, q, rfl, hm, hq, hAL⟩
      · have AL := hid hAL
        clear hAL
        go_wp2_with (fail)
        refine wp_mono (Q := TailO w0 B tb mb (some ⟨bS, offS, none⟩) l cap ls i) (HX x (-1) qz G R _ w2 (H.out.armed HS3.out XOK.out HQ.out qz_ok own4.out E4.out GR.out BT.out AL.out (by rfl) (by rfl) (by rfl) (by rfl) (by rfl) (by rfl) (by rfl) (by rfl) (by rfl) (by rfl))) ?_
        intro e A w' h
        obtain ⟨rfl, hh⟩ := h
        exact (by assumption : ∀ (a : Act) (w : World), Y.wp Try.prog _ a w → _) _ _ (HY _ _ ⟨rfl, hh⟩)
      · have AL := hid hAL
        clear hAL
        have hmn : decide (m < j) = true := decide_eq_true hm
        have tm0 : decide ((0 : Int) ≤ ((m : Nat) : Int)) = true := decide_eq_true (by omega)
        obtain ⟨g, c5, e5⟩ := own_slice own4.out (by omega)
        simp only [Value.slice.injEq, true_and] at e5
        obtain ⟨rfl, rfl⟩ := e5
        have qok := hid (H.out.sit.tl.ok q (List.mem_of_getElem? hq))
        have row := own_quote own4.out H.out.sit.tl.ok hq
        have hil := hid (infoQl qok.out)
        have hia := hid (infoQa qok.out)
        have hza := hid (zQ_as qok.out)
        have ho1 := hid (all_oneCell_toArray (Quo.one q))
        have HQ' := HQ.out
        have H2 := hid (setRow_heap w2 R _ q.cells.toArray _ _ HQ.out)
        have F2 := hid (far_row w2 R q.cells.toArray)
        clear hq
        go_wp2_with (first | refine wpList_load_mid rfl _ _ rfl g (m * 71) rfl q.cells _ row unQ rfl hil.out ?_ | (with_reducible refine wpList_store_row rfl _ _ _ rfl R q.cells.toArray rfl rfl _ _ HQ' hia.out hza.out ho1.out ?_; generalize w2.setRow R q.cells.toArray = w3 at *))
        refine wp_mono (Q := TailO w0 B tb mb (some ⟨bS, offS, none⟩) l cap ls i) (HX x (m) q G R _ w3 (H.out.armed (heap_far HS3.out F2.out GR.out.2.2.1) XOK.out H2.out qok.out (Far.own own4.out F2.out (fun e => (GR.out.2.2.2 _ e).2 rfl)) E4.out GR.out (BT.out.trans (F2.out.below (by have := HR.out; have := B3.out.size; omega) BT.out.size)) AL.out (by rfl) (by rfl) (by rfl) (by rfl) (by rfl) (by rfl) (by rfl) (by rfl) (by rfl) (by rfl))) ?_
        intro e A w' h
        obtain ⟨rfl, hh⟩ := h
        exact (by assumption : ∀ (a : Act) (w : World), Y.wp Try.prog _ a w → _) _ _ (HY _ _ ⟨rfl, hh⟩)
theorem stepC {w0 : World} {B tb mb : Nat} {a : Option Addr} {l cap : Nat} {ls : List Stp} {i : Nat} {M : QM} {n : Nat} {L : List Quo} {T : Array Value} {w : World} (h : StepI w0 B tb mb a l cap ls i M n L T w) : (runC 8).wp Try.prog (StepO w0 B tb mb a l cap i) ⟨T, []⟩ w := by
  have e : runC 8 = stX (Code.seq (headC (runC 21)) (runC 76)) (runC 7) := by kernel_rfl
  rw [e]
  refine stepX h _ _ (fun A w' h' => incC h' h.il) fun x at' q G R T' w' hA => ?_
  refine wp_seq (wp_mono (switchC hA) ?_)
  intro e A w'' h'
  obtain ⟨T2, df⟩ := A
  obtain ⟨rfl, hd, r⟩ := h'
  dsimp only at hd
  subst hd
  exact tailC ⟨rfl, rfl, r⟩
end Go.Proofs.Ytibjkpejbihcpaa
