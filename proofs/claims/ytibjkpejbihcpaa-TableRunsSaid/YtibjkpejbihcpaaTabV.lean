/- All. -/
import Derived.Test.YtibjkpejbihcpaaSr
import Derived.Test.YtibjkpejbihcpaaSortN
import Derived.Test.YtibjkpejbihcpaaRange
import Derived.Great.BuildSlice
import Derived.Great.FillDense
namespace Go.Proofs.Ytibjkpejbihcpaa
open Go.RowKit

theorem wpList_nextM {ops : Array Oper} {rest : List Oper} {o : Oper} {a : Act} {Q : Exit → Act → World → Prop} {k : TypeId} {α : Type} [DecidableEq α] {E : KeyE k α} {w : World} {b r n cnt : Nat} {M : α → Option Value} {L : α → Bool}
    (hg : o.guard = none) (it : Operand) (hop : o.op = Op.next it false) (hit : a.eval it = .pointer (some ⟨r, 0, none⟩)) (h : RangeIs E w b r M n L cnt)
    (hDone : cnt = 0 → (∀ x, E.ok x → L x = false) → wpList Try.prog ops Q rest (a.put o.dst (.tuple #[.bool false])) w)
    (hMore : ∀ x v w' cnt', E.ok x → L x = true → M x = some v → RangeIs E w' b r M n (fun y => L y && !decide (y = x)) cnt' → cnt' < cnt → Far r w w' → w'.heap.size = w.heap.size → (Instr.entry (.pointer (some ⟨r, 0, none⟩))).run Try.prog w' = .ok (.tuple #[E.enc x, v]) w' →
      wpList Try.prog ops Q rest (a.put o.dst (.tuple #[.bool true, E.enc x, v])) w') :
    wpList Try.prog ops Q (o :: rest) a w := by
  refine wpList_plain hg fun K' hK' => ?_
  unfold Oper.wp
  rcases h.next o.type with ⟨h0, hl, hrun⟩ | ⟨x, v, w', cnt', hx, hLx, hMx, hrun, hrg, hlt, hgr, hsz, hen⟩
  · simp [execOp, hop, hit, hrun, Result.andThen]
    exact hK' _ _ (hDone h0 hl)
  · simp [execOp, hop, hit, hrun, Result.andThen]
    exact hK' _ _ (hMore x v w' cnt' hx hLx hMx hrg hlt hgr hsz hen)
theorem wpList_entryM {ops : Array Oper} {rest : List Oper} {o : Oper} {a : Act} {Q : Exit → Act → World → Prop} {w : World} {r : Nat} {kv v : Value} (hg : o.guard = none) (it : Operand) (hop : o.op = Op.entry it) (hit : a.eval it = .pointer (some ⟨r, 0, none⟩))
    (hen : (Instr.entry (.pointer (some ⟨r, 0, none⟩))).run Try.prog w = .ok (.tuple #[kv, v]) w) (h : wpList Try.prog ops Q rest (a.put o.dst (.tuple #[kv, v])) w) : wpList Try.prog ops Q (o :: rest) a w := by
  refine wpList_plain hg fun K' hK' => ?_
  unfold Oper.wp
  simp [execOp, hop, hit, hen, Result.andThen]
  exact hK' _ _ h
def cellsOf (M : QM) (ks : List (List Nat)) : List Value := ks.flatMap fun x => ((M x).getD qz).cells
/-- All under way: ks were met; v is the list so far -/
structure AllRel (w : World) (mb : Nat) (M : QM) (n : Nat) (ks : List (List Nat)) (L : List Nat → Bool) (cnt : Nat) (v : Value) (wr : World) : Prop where
  nd : ks.Nodup
  ok : ∀ x ∈ ks, EH.ok x ∧ (M x).isSome = true
  rg : RangeIs EH wr mb w.heap.size (valM M) n L cnt
  left : ∀ x, EH.ok x → L x = ((M x).isSome && !decide (x ∈ ks))
  own : wr.ownsRow (w.heap.size + 1) 43 71 v ks.length (cellsOf M ks)
  bel : Below w.heap.size w wr
theorem cellsOf_snoc (M : QM) (ks : List (List Nat)) (x : List Nat) {q : Quo} (h : M x = some q) : cellsOf M (ks ++ [x]) = cellsOf M ks ++ q.cells := by
  simp [cellsOf, h]
theorem AllRel.more {w wr w' : World} {mb n cnt cnt' : Nat} {M : QM} {ks : List (List Nat)} {L : List Nat → Bool} {v v' : Value} {x : List Nat} {q : Quo} (h : AllRel w mb M n ks L cnt v wr) (hx : EH.ok x) (hq : M x = some q) (hL : L x = true)
    (hr : RangeIs EH w' mb w.heap.size (valM M) n (fun y => L y && !decide (y = x)) cnt') (ho : w'.ownsRow (w.heap.size + 1) 43 71 v' (ks.length + 1) (cellsOf M ks ++ q.cells)) (hb : Below w.heap.size w w') :
    AllRel w mb M n (ks ++ [x]) (fun y => L y && !decide (y = x)) cnt' v' w' where
  nd := by
    refine List.nodup_append.2 ⟨h.nd, by simp, ?_⟩
    intro a ha b hb e
    simp only [List.mem_singleton] at hb
    subst hb e
    have := h.left a hx
    rw [hL] at this
    simp [ha] at this
  ok := by
    intro y hy
    rcases List.mem_append.1 hy with hy | hy
    · exact h.ok y hy
    · simp only [List.mem_singleton] at hy
      subst hy
      exact ⟨hx, by rw [hq]; rfl⟩
  rg := hr
  left := by
    intro y hy
    rw [h.left y hy]
    by_cases e : y = x
    · subst e; simp
    · simp [e]
  own := by rw [cellsOf_snoc M ks x hq, List.length_append]; exact ho
  bel := hb
theorem AllRel.le {w wr : World} {mb n cnt : Nat} {M : QM} {ks : List (List Nat)} {L : List Nat → Bool} {v : Value} (h : AllRel w mb M n ks L cnt v wr) : ks.length ≤ n :=
  h.rg.map.most h.nd (fun x hx => ⟨(h.ok x hx).1, by unfold valM; rw [Option.isSome_map]; exact (h.ok x hx).2⟩)
theorem AllRel.count {w wr : World} {mb n cnt : Nat} {M : QM} {ks : List (List Nat)} {L : List Nat → Bool} {v : Value} (h : AllRel w mb M n ks L cnt v wr) (hL : ∀ x, EH.ok x → L x = false) : ks.length = n ∧ ∀ x, EH.ok x → ((M x).isSome = true ↔ x ∈ ks) := by
  have hm : ∀ x, EH.ok x → ((M x).isSome = true ↔ x ∈ ks) := fun x hx => by
    constructor
    · intro hs
      have := h.left x hx
      rw [hL x hx, hs] at this
      simpa using this.symm
    · exact fun hk => (h.ok x hk).2
  exact ⟨h.rg.map.count h.nd (fun x hx => (h.ok x hx).1) (fun x hx => by unfold valM; rw [Option.isSome_map]; exact hm x hx), hm⟩
theorem tyQs : SliceTy Try.prog 57 43 71 120 (.agg zQ) := .mk' Try.underlying57 (by kernel_rfl) (by kernel_rfl) (by decide)
/-- what All hands back: all quotes, each once, sorted -/
def AllRes (w : World) (tb mb n : Nat) (M : QM) (e : Ending) (w' : World) : Prop := ∃ (a : Option Addr) (cap : Nat) (qs : List Quo) (ks : List (List Nat)), e = .returned (.slice a n cap) ∧ qs.length = n ∧ Rd w' 71 a n cap (qs.flatMap Quo.cells) ∧
  (ks.Nodup ∧ (∀ x ∈ ks, EH.ok x) ∧ (∀ x, EH.ok x → ((M x).isSome = true ↔ x ∈ ks)) ∧ qs.Perm (ks.map fun x => (M x).getD qz)) ∧
  qs.Pairwise (fun p q => ¬ cmpBy q.no p.no < 0) ∧ TabAt w' tb mb M n ∧ Below w.heap.size w w'
theorem okD {M : QM} (hM : ∀ x q, M x = some q → q.ok) (x : List Nat) : ((M x).getD qz).ok := by
  cases h : M x with
  | none => exact qz_ok
  | some q => exact hM x q h
def toO (M : QM) (hM : ∀ x q, M x = some q → q.ok) (x : List Nat) : OQuo := ⟨(M x).getD qz, okD hM x⟩
theorem cellsOf_eq {M : QM} (hM : ∀ x q, M x = some q → q.ok) (ks : List (List Nat)) : cellsOf M ks = (ks.map (toO M hM)).toArray.toList.flatMap OQuo.cells := by
  rw [List.flatMap_map]; rfl
theorem flat_o (l : List OQuo) : l.flatMap OQuo.cells = (l.map (·.1)).flatMap Quo.cells := by
  rw [List.flatMap_map]; rfl
theorem permIn_all {α : Type} [Inhabited α] {d d' : Array α} (h : Go.Sort.PermIn 0 d.size d d') : d'.toList.Perm d.toList := by
  obtain ⟨h1, _, h3⟩ := h
  have e1 : d'.extract 0 d.size = d' := by rw [← h1]; simp
  have e2 : d.extract 0 d.size = d := by simp
  rwa [e1, e2] at h3
theorem sortedIn_all {α : Type} [Inhabited α] {lt : α → α → Bool} {d' : Array α} {n : Nat} (hn : d'.size = n) (h : Go.Sort.SortedIn lt 0 n d') : d'.toList.Pairwise (fun p q => lt q p = false) := by
  rw [List.pairwise_iff_getElem]
  intro i j hi hj hij
  have hj' : j < d'.size := by simpa using hj
  have := h i j (Nat.zero_le _) hij (by omega)
  rwa [getElem!_pos d' i (by omega), getElem!_pos d' j hj'] at this
set_option maxRecDepth 100000 in
set_option maxHeartbeats 2000000 in
theorem all_walk (tb mb n : Nat) (M : QM) (w : World) (h : TabAt w tb mb M n) : Calls Try.prog 25 #[.pointer (some ⟨tb, 0, none⟩)] w (AllRes w tb mb n M) := by
  have hc := h.cell
  have hM := hid h.map
  have zq := zeroQ
  have uQ := Try.underlying43
  have iQ := infoQ
  go_enter Try.func25, Try.ntmps25
  go_wp2_with (refine wpList_rangeM rfl _ _ _ rfl unMap rfl hM.out ?_; intro w0 hr hb hs)
  go_frame
  have R0 := hid hr
  have B0 := hid hb
  have hs0 := hid hs
  clear hr hb hs
  go_loopw [3] (fun x3 wr => ∃ ks L cnt v, v = x3 ∧ AllRel w mb M n ks L cnt v wr) (fun _ wr => wr.rangeLeft mb w.heap.size)
  case atStart => exact ⟨[], _, _, _, rfl, ⟨.nil, by simp, R0.out, by simp [valM], ⟨rfl, .inl ⟨rfl, rfl⟩⟩, B0.out⟩⟩
  case round =>
    obtain ⟨ks, L, cnt, v, rfl, hrel⟩ := hrel
    have HR := hid hrel
    clear hrel R0 B0 hs0
    go_wp2_with (refine wpList_nextM rfl _ rfl rfl HR.out.rg ?_ ?_)
    · intro h0 hl
      subst h0
      have HL := hid hl
      clear hl
      have hks := hid (HR.out.count HL.out)
      have hsl : ∃ a c, v = .slice a ks.length c := by obtain ⟨a, c, e, _⟩ := Rd.of_owns HR.out.own; exact ⟨a, c, e⟩
      obtain ⟨a, c, rfl⟩ := hsl
      go_wp2_with fail
      rcases HR.out.own.2 with ⟨hv, hk0⟩ | ⟨g, c', cur, hv, hB, hg, hn, hm, hs, ht⟩
      · rw [hv] at HR ⊢
        refine (sortN_walk _ _).mono ?_
        rintro e w' ⟨rfl, rfl⟩
        go_wp2
        go_ret
        have hk := List.eq_nil_of_length_eq_zero hk0
        subst hk
        have hn0 := hks.out.1
        rw [List.length_nil] at hn0
        subst hn0
        exact ⟨none, 0, [], [], rfl, rfl, ⟨rfl, by omega, by decide, fun _ => rfl, 0, 0, by simp, by simp⟩, ⟨.nil, by simp, hks.out.2, .refl _⟩, .nil, h.below HR.out.bel, HR.out.bel⟩
      · simp only [Value.slice.injEq, true_and] at hv
        obtain ⟨rfl, rfl⟩ := hv
        have hkl := HR.out.le
        have hO := HR.out.own
        rw [cellsOf_eq h.ok] at hO
        have hds : (ks.map (toO M h.ok)).toArray.size = ks.length := by simp
        have hH := holdsK_of_own (enc := OQuo.cells) (fun x => Quo.len x.2) (by decide) hO
        have hgl := (Array.getElem?_eq_some_iff.1 hg).1
        have S := sortQ_walk g 0 c (ks.map (toO M h.ok)).toArray wr hH hgl (by rw [hds]; have := h.small; omega)
        rw [hds] at S
        refine S.mono ?_
        rintro e w' ⟨rfl, d', m, os, hP, hS, rfl⟩
        have hd' : d'.size = ks.length := by have := hP.1; rw [hds] at this; exact this
        have hfar := sorted_far (enc := OQuo.cells) (k := 71) (w := wr) (g := g) (m := m) (d' := d') (os := os)
        have hrd := sorted_rd (enc := OQuo.cells) (fun x => Quo.len x.2) (by decide) (m := m) (os := os) hgl hH (hd'.trans hds.symm) hds hn hm
        rw [← hds] at hP
        have hperm := permIn_all (by rw [hds] at hP ⊢; exact hP)
        have hsort := sortedIn_all hd' hS
        have hbw : Below w.heap.size w (sortWorldK OQuo.cells 71 wr g 0 m d' os) := HR.out.bel.trans (hfar.below (by omega) HR.out.bel.size)
        rw [flat_o] at hrd
        have HRD := hid hrd
        have HPM := hid hperm
        have HSO := hid hsort
        have HBW := hid hbw
        have HDL := hid hd'
        clear hrd hperm hsort hbw hd' hfar hS hP S hH hO
        generalize sortWorldK OQuo.cells 71 wr g 0 m d' os = w5 at *
        go_wp2
        go_ret
        have hkn := hks.out.1
        subst hkn
        refine ⟨_, _, d'.toList.map (·.1), ks, rfl, by simp [HDL.out], HRD.out, ⟨HR.out.nd, fun x hx => (HR.out.ok x hx).1, hks.out.2, ?_⟩, ?_, h.below HBW.out, HBW.out⟩
        · have := HPM.out.map (·.1)
          simpa [toO, Function.comp_def] using this
        · rw [List.pairwise_map]
          refine HSO.out.imp ?_
          intro p q hpq
          have := of_decide_eq_false hpq; exact this
    · intro x v1 w1 cnt1 hx hLx hMx hr1 hlt hf1 hs1 hen
      obtain ⟨q, hq, rfl⟩ : ∃ q, M x = some q ∧ v1 = .agg q.cells.toArray := by
        unfold valM at hMx
        cases hm : M x with
        | none => rw [hm] at hMx; cases hMx
        | some q => rw [hm] at hMx; simp only [Option.map_some, Option.some.injEq] at hMx; exact ⟨q, rfl, hMx.symm⟩
      have hqo := hid (h.ok x q hq)
      have hi1 := hid (infoQa hqo.out)
      have hz1 := hid (zQ_as hqo.out)
      have ho1 := hid (all_oneCell_toArray (Quo.one q))
      have HL := hid hLx
      have HF1 := hid hf1
      have HR1 := hid hr1
      have HS1 := hid hs1
      clear hMx hLx hf1 hr1 hs1
      have hzs := hid (show q.cells.toArray.size = 71 by rw [List.size_toArray]; exact Quo.len hqo.out)
      have hzi : ((Try.prog.info? 43).bind (·.zero)).isSome = true := by kernel_rfl
      have hiQ : (Try.prog.info? 43).map (·.size) = some 71 := infoQ
      go_upto_region 7 with (first | refine wpList_entryM rfl _ rfl rfl hen ?_ | refine wpList_store_row rfl _ _ _ rfl w1.heap.size q.cells.toArray rfl rfl _ _ (heap_alloc_new w1 _) hi1.out hz1.out ho1.out ?_)
      have LA := laid w1 zQ q.cells.toArray 43
      have RA := hid (row_range LA.1)
      have BA := hid LA.2
      clear LA hen
      generalize (w1.alloc (Obj.cells zQ 43)).setRow w1.heap.size q.cells.toArray = w2 at *
      have hiC := hid (infoQl hqo.out)
      have hr0 := HR.out.rg.lt
      have o2 := hid (own_below (Far.own HR.out.own HF1.out (fun e => by have := (HR.out.own.lt _ e).1; omega)) BA.out)
      have hlen : ks.length < 4294967296 := by
        have := HR.out.le
        have := h.small
        omega
      have hB2 : w.heap.size + 1 ≤ w2.heap.size := by have := BA.out.size; have := HS1.out; omega
      go_wp2_with (first | refine wpList_load_mid rfl _ _ rfl w1.heap.size 0 rfl q.cells _ RA.out uQ rfl hiC.out ?_ | refine wpList_lit1 rfl _ _ _ rfl rfl Try.underlying57 hiQ hzi hzs.out (by decide) (by decide) ?_ | (at_builtin; refine wpList_push rfl _ _ 57 rfl tyQs (w.heap.size + 1) o2.out rfl rfl hzs.out (by simpa using ho1.out) hlen (by decide) hB2 ?_; intro v4 w4 own4 b4 hs4 _; have O4 := hid own4; have B4 := hid b4; clear own4 b4 hs4))
      go_roundw
      case rel =>
        refine ⟨ks ++ [x], _, cnt1, v4, rfl, HR.out.more hx hq HL.out ?_ ?_ ?_⟩
        · exact (HR1.out.below BA.out).low B4.out (by have := h.map.lt; omega) (by omega)
        · simpa using O4.out
        · exact ((HR.out.bel.trans (HF1.out.below (Nat.le_refl _) (by omega))).trans (BA.out.mono (by have := HS1.out; omega))).trans (B4.out.mono (by omega))
      case measure =>
        have e1 := ((HR1.out.below BA.out).low B4.out (by have := h.map.lt; omega) (by omega)).left_eq
        rw [e1, HR.out.rg.left_eq]
        exact hlt
end Go.Proofs.Ytibjkpejbihcpaa
