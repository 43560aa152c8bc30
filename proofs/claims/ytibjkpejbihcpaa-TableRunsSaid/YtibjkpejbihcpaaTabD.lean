/- Drop. -/
import Derived.Test.YtibjkpejbihcpaaTabV
namespace Go.Proofs.Ytibjkpejbihcpaa
open Go.RowKit

def dropQ (H : Int) (q : Quo) : Bool := q.used == 0 && (decide (q.st = 2) || (decide (q.st = 1) && decide (H > q.til)))
def dropM (M : QM) (H : Int) : QM := fun x => match M x with | some q => if dropQ H q then none else some q | none => none
/-- Drop under way -/
structure DropRel (w : World) (tb mb n : Nat) (M : QM) (H : Int) (M1 : QM) (n1 : Nat) (L : List Nat → Bool) (cnt k : Nat) (wr : World) : Prop where
  sum : k + n1 = n
  rg : RangeIs EH wr mb w.heap.size (valM M1) n1 L cnt
  more : ∀ x, EH.ok x → L x = true → M1 x = M x
  done : ∀ x, EH.ok x → L x = false → M1 x = dropM M H x
  sub : ∀ x q, M1 x = some q → M x = some q
  far : Far mb w wr
def eraM (M : QM) (x : List Nat) : QM := fun y => if y = x then none else M y
theorem valM_era (M : QM) (x : List Nat) : (fun y => if y = x then none else valM M y) = valM (eraM M x) := by
  funext y
  unfold valM eraM
  by_cases h : y = x
  · simp [h]
  · simp [h]
theorem DropRel.keep {w wr w' : World} {tb mb n n1 cnt cnt' k : Nat} {M M1 : QM} {H : Int} {L : List Nat → Bool} {x : List Nat} {q : Quo} (h : DropRel w tb mb n M H M1 n1 L cnt k wr) (hL : L x = true) (hq : M1 x = some q) (hd : dropQ H q = false)
    (hr : RangeIs EH w' mb w.heap.size (valM M1) n1 (fun y => L y && !decide (y = x)) cnt') (hf : Far mb w w') : DropRel w tb mb n M H M1 n1 (fun y => L y && !decide (y = x)) cnt' k w' where
  sum := h.sum
  rg := hr
  more := fun y hy hl => h.more y hy (by simp at hl; exact hl.1)
  done := fun y hy hl => by
    by_cases e : y = x
    · subst e
      have := h.more y hy hL
      rw [hq] at this
      rw [hq, dropM, ← this]
      simp [hd]
    · exact h.done y hy (by simpa [e] using hl)
  sub := h.sub
  far := hf
theorem DropRel.drop {w wr w' : World} {tb mb n n1 cnt cnt' k : Nat} {M M1 : QM} {H : Int} {L : List Nat → Bool} {x : List Nat} {q : Quo} (h : DropRel w tb mb n M H M1 n1 L cnt k wr) (hx : EH.ok x) (hL : L x = true) (hq : M1 x = some q) (hd : dropQ H q = true)
    (hr : RangeIs EH w' mb w.heap.size (fun y => if y = x then none else valM M1 y) (if (valM M1 x).isSome then n1 - 1 else n1) (fun y => (L y && !decide (y = x)) && !decide (y = x)) cnt') (hf : Far mb w w') : DropRel w tb mb n M H (eraM M1 x) (n1 - 1) (fun y => (L y && !decide (y = x)) && !decide (y = x)) cnt' (k + 1) w' := by
  have hs : (valM M1 x).isSome = true := by unfold valM; rw [hq]; rfl
  rw [valM_era, if_pos hs] at hr
  have h1 : 1 ≤ n1 := by
    have := h.rg.map.most (ks := [x]) (by simp) (fun y hy => by simp only [List.mem_singleton] at hy; subst hy; exact ⟨hx, hs⟩)
    simpa using this
  refine ⟨by have := h.sum; omega, hr, fun y hy hl => ?_, fun y hy hl => ?_, fun y p hp => ?_, hf⟩
  · have e : y ≠ x := by intro e; simp [e] at hl
    rw [eraM, if_neg e]
    exact h.more y hy (by simp [e] at hl; exact hl)
  · by_cases e : y = x
    · subst e
      have := h.more y hy hL
      rw [hq] at this
      rw [eraM, if_pos rfl, dropM, ← this]
      simp [hd]
    · rw [eraM, if_neg e]
      exact h.done y hy (by simpa [e] using hl)
  · unfold eraM at hp
    split at hp
    · cases hp
    · exact h.sub y p hp
theorem quo_cell {w : World} {g : Nat} {q : Quo} (h : w.rangeAt g 0 q.cells) (hq : q.ok) (i : Nat) {v : Value} (hv : q.tail[i]? = some v) : w.cell? ⟨g, 64 + i, none⟩ = some v :=
  gen_cell h (by rw [Quo.get hq]; exact hv)
set_option maxRecDepth 100000 in
set_option maxHeartbeats 2000000 in
theorem drop_walk (tb mb n : Nat) (M : QM) (H : Int) (w : World) (h : TabAt w tb mb M n) : Calls Try.prog 24 #[.pointer (some ⟨tb, 0, none⟩), .int .i64 H] w (fun e w' => ∃ k n', e = .returned (.int .i64 ((k : Nat) : Int)) ∧ k + n' = n ∧ TabAt w' tb mb (dropM M H) n' ∧ Far mb w w') := by
  have hc := h.cell
  have hM := hid h.map
  have hml := h.map.lt
  have hne := h.ne
  have htl : tb < w.heap.size := World.block_lt_of_cell? w _ hc
  have zq := zeroQ
  have uQ := Try.underlying43
  have hiA : (Try.prog.info? 30).map (·.size) = some 32 := by kernel_rfl
  go_enter Try.func24, Try.ntmps24
  go_wp2_with (refine wpList_rangeM rfl _ _ _ rfl unMap rfl hM.out ?_; intro w0 hr hb hs)
  go_frame
  have R0 := hid hr
  have B0 := hid hb
  have hs0 := hid hs
  clear hr hb hs
  go_loopw [5] (fun x5 wr => ∃ M1 n1 L cnt k, x5 = .int .i64 ((k : Nat) : Int) ∧ DropRel w tb mb n M H M1 n1 L cnt k wr) (fun _ wr => wr.rangeLeft mb w.heap.size)
  case atStart => exact ⟨M, n, _, _, 0, rfl, ⟨by omega, R0.out, fun _ _ _ => rfl, fun x _ hx => by simp only [valM, Option.isSome_map, Option.isSome_eq_false_iff, Option.isNone_iff_eq_none] at hx; rw [dropM, hx], fun _ _ h => h, Far.of B0.out⟩⟩
  case round =>
    obtain ⟨M1, n1, L, cnt, k, rfl, hrel⟩ := hrel
    have HR := hid hrel
    clear hrel R0 B0 hs0
    go_wp2_with (refine wpList_nextM rfl _ rfl rfl HR.out.rg ?_ ?_)
    · intro h0 hl
      have HL := hid hl
      clear h0 hl
      go_wp2
      go_ret
      refine ⟨k, n1, rfl, HR.out.sum, ?_, HR.out.far⟩
      refine ⟨far_cell HR.out.far h.cell hne, HR.out.rg.map.congr (fun x hx => ?_) rfl, fun x q hq => ?_, by have := HR.out.sum; have := h.small; omega, hne⟩
      · unfold valM
        rw [HR.out.done x hx (HL.out x hx)]
      · unfold dropM at hq
        cases hm : M x with
        | none => rw [hm] at hq; cases hq
        | some p =>
          rw [hm] at hq
          dsimp only at hq
          split at hq
          · cases hq
          · cases hq; exact h.ok x q hm
    · intro x v1 w1 cnt1 hx hLx hMx hr1 hlt hf1 hs1 hen
      obtain ⟨q, hq, rfl⟩ : ∃ q, M1 x = some q ∧ v1 = .agg q.cells.toArray := by
        unfold valM at hMx
        cases hm : M1 x with
        | none => rw [hm] at hMx; cases hMx
        | some q => rw [hm] at hMx; simp only [Option.map_some, Option.some.injEq] at hMx; exact ⟨q, rfl, hMx.symm⟩
      have hqo := hid (h.ok x q (HR.out.sub x q hq))
      have hi1 := hid (infoQa hqo.out)
      have hz1 := hid (zQ_as hqo.out)
      have ho1 := hid (all_oneCell_toArray (Quo.one q))
      have HX := hid hx
      have HL := hid hLx
      have HF1 := hid hf1
      have HR1 := hid hr1
      have HS1 := hid hs1
      have hx32 : ∀ z : Array Value, z.size = 32 → z.size = (nums .u8 x).toArray.size := fun z hz => by rw [hz]; simp [hx.1]
      have hiX : (Try.prog.info? 30).map (·.size) = some (nums .u8 x).toArray.size := by rw [hiA]; simp [hx.1]
      have hoX := hid (all_oneCell_toArray (nums_oneCell .u8 x))
      have e1 : EH.enc x = .agg (nums .u8 x).toArray := rfl
      rw [e1] at hen ⊢
      clear hMx hLx hf1 hr1 hs1 e1
      go_upto_region 7 with (first | refine wpList_entryM rfl _ rfl rfl hen ?_ | refine wpList_store_row rfl _ _ _ rfl w1.heap.size (nums .u8 x).toArray rfl rfl _ _ (alloc2p w1 _ _).1 hiX (hx32 _ rfl) hoX.out ?_ | refine wpList_store_row rfl _ _ _ rfl (w1.heap.size + 1) q.cells.toArray rfl rfl _ _ ((setRow_other _ _ _ _ (by omega)).trans (alloc2p w1 _ _).2.1) hi1.out hz1.out ho1.out ?_)
      have LA := fun z => laid2 w1 z (nums .u8 x).toArray zQ q.cells.toArray 30 43
      generalize hW : ((World.alloc (World.alloc w1 _) _).setRow _ _).setRow _ _ = w2
      replace LA := hid (hW ▸ LA _)
      clear hW hen
      have KA := hid (row_range LA.out.1)
      have QA := hid (row_range LA.out.2.1)
      have BA := hid LA.out.2.2
      clear LA
      have c1 : w2.cell? ⟨w1.heap.size + 1, 70, none⟩ = some (.int .u64 (q.used : Int)) := quo_cell QA.out hqo.out 6 rfl
      have c2 : w2.cell? ⟨w1.heap.size + 1, 66, none⟩ = some (.int .i64 q.st) := quo_cell QA.out hqo.out 2 rfl
      have c3 : w2.cell? ⟨w1.heap.size + 1, 69, none⟩ = some (.int .i64 q.til) := quo_cell QA.out hqo.out 5 rfl
      have hdf : dropQ H q = (((q.used : Int) == 0) && ((q.st == 2) || ((q.st == 1) && decide (q.til < H)))) := by
        rw [dropQ]
        congr 1
        rw [Bool.eq_iff_iff]; simp
      have HFA := hid ((HR.out.far.newer HF1.out (Nat.le_refl _)).trans (Far.of BA.out))
      have HRB := hid (HR1.out.below BA.out)
      have hcell := hid (far_cell HR.out.far hc (by simpa using hne))
      have hrl := HR.out.rg.lt
      have hcell2 := hid (cell_keep BA.out (far_cell HF1.out hcell.out (by simp; omega)))
      clear hcell hc
      generalize hg1 : w1.heap.size = g1 at *
      have hg1m := hid (show g1 ≠ mb by have := HR.out.far.size; have := HS1.out; omega)
      have uA := Try.underlying30
      have hiL : (Try.prog.info? 30).map (·.size) = some (nums .u8 x).length := by rw [hiA]; simp [hx.1]
      cases hb1 : ((q.used : Int) == 0) with
      | false =>
        rw [hb1] at hdf
        have HD := hid hdf
        clear hdf
        go_wp2
        go_roundw
        case rel => exact ⟨M1, n1, _, cnt1, k, rfl, HR.out.keep HL.out hq (HD.out.trans rfl) HRB.out HFA.out⟩
        case measure =>
          rw [HRB.out.left_eq, HR.out.rg.left_eq]
          exact hlt
      | true =>
        cases hb2 : (q.st == 2) with
        | true =>
          rw [hb1, hb2] at hdf
          have HD := hid hdf
          clear hdf
          go_wp2
          go_region_held3 (fun w' => w'.cell? ⟨tb, 0, none⟩ = some (.map (some mb)) ∧ w'.rangeAt g1 0 (nums .u8 x)) (first | exact ⟨hcell2.out, KA.out⟩ | exact ⟨far_cell f4 hcell2.out hne, range_far f4 KA.out hg1m.out⟩) ((refine step_delR rfl _ _ _ rfl unMap (HRB.out.below ((Below.refl _ _).drew)) rfl x HX.out rfl ?_; intro w4 cnt4 m4 hle f4))
          have M4 := hid m4
          have F4 := hid (HFA.out.trans ((Far.of ((Below.refl _ _).drew)).trans f4))
          clear m4
          go_wp2
          go_roundw
          case rel => exact ⟨_, _, _, cnt4, k + 1, by have := HR.out.sum; have := h.small; rw [IntWalk.wrap64_in _ ⟨by omega, by omega⟩]; simp, HR.out.drop HX.out HL.out hq (HD.out.trans rfl) M4.out F4.out⟩
          case measure =>
            rw [M4.out.left_eq, HR.out.rg.left_eq]
            omega
        | false =>
          cases hb3 : (q.st == 1) with
          | false =>
            rw [hb1, hb2, hb3] at hdf
            have HD := hid hdf
            clear hdf
            go_wp2
            go_roundw
            case rel => exact ⟨M1, n1, _, cnt1, k, rfl, HR.out.keep HL.out hq (HD.out.trans rfl) HRB.out HFA.out⟩
            case measure =>
              rw [HRB.out.left_eq, HR.out.rg.left_eq]
              exact hlt
          | true =>
            cases hb4 : decide (q.til < H) with
            | false =>
              rw [hb1, hb2, hb3, hb4] at hdf
              have HD := hid hdf
              clear hdf
              go_wp2
              go_roundw
              case rel => exact ⟨M1, n1, _, cnt1, k, rfl, HR.out.keep HL.out hq (HD.out.trans rfl) HRB.out HFA.out⟩
              case measure =>
                rw [HRB.out.left_eq, HR.out.rg.left_eq]
                exact hlt
            | true =>
              rw [hb1, hb2, hb3, hb4] at hdf
              have HD := hid hdf
              clear hdf
              go_wp2
              go_region_held3 (fun w' => w'.cell? ⟨tb, 0, none⟩ = some (.map (some mb)) ∧ w'.rangeAt g1 0 (nums .u8 x)) (first | exact ⟨hcell2.out, KA.out⟩ | exact ⟨far_cell f4 hcell2.out hne, range_far f4 KA.out hg1m.out⟩) ((refine step_delR rfl _ _ _ rfl unMap (HRB.out.below ((Below.refl _ _).drew)) rfl x HX.out rfl ?_; intro w4 cnt4 m4 hle f4))
              have M4 := hid m4
              have F4 := hid (HFA.out.trans ((Far.of ((Below.refl _ _).drew)).trans f4))
              clear m4
              go_wp2
              go_roundw
              case rel => exact ⟨_, _, _, cnt4, k + 1, by have := HR.out.sum; have := h.small; rw [IntWalk.wrap64_in _ ⟨by omega, by omega⟩]; simp, HR.out.drop HX.out HL.out hq (HD.out.trans rfl) M4.out F4.out⟩
              case measure =>
                rw [M4.out.left_eq, HR.out.rg.left_eq]
                omega
end Go.Proofs.Ytibjkpejbihcpaa
