/- TableFull. -/
import Derived.Test.YtibjkpejbihcpaaTabD
import Derived.Test.YtibjkpejbihcpaaTabH
namespace Go.Proofs.Ytibjkpejbihcpaa
open Go.RowKit

def hb (v : Nat) : List Nat := [v, 0, 0, 0, 0, 0, 0, 0, 0, 0, 0, 0, 0, 0, 0, 0, 0, 0, 0, 0, 0, 0, 0, 0, 0, 0, 0, 0, 0, 0, 0, 0]
def hx1 : List Nat := [0, 1, 0, 0, 0, 0, 0, 0, 0, 0, 0, 0, 0, 0, 0, 0, 0, 0, 0, 0, 0, 0, 0, 0, 0, 0, 0, 0, 0, 0, 0, 0]
theorem hb_ok {v : Nat} (h : v < 256) : EH.ok (hb v) := ⟨rfl, by intro d hd; simp [hb] at hd; omega⟩
theorem hx1_ok : EH.ok hx1 := ⟨rfl, by decide⟩
theorem h1_nz : h1x ≠ hz32 := by decide
def fullM (i : Nat) : QM := fun x => if x = hb (x.headD 0) ∧ x.headD 0 < i then some (askQ x h1x true 5) else none
theorem fullM_new (i : Nat) : fullM i (hb i) = none := by simp [fullM, hb]
theorem fullM_hx (i : Nat) : fullM i hx1 = none := by simp [fullM, hb, hx1]
theorem fullM_at {v i : Nat} (h : v < i) : fullM i (hb v) = some (askQ (hb v) h1x true 5) := by simp [fullM, hb, h]
theorem fullM_upd (i : Nat) : updM (fullM i) (hb i) (askQ (hb i) h1x true 5) = fullM (i + 1) := by
  funext x
  unfold updM
  by_cases h : x = hb i
  · subst h
    rw [if_pos rfl, fullM_at (Nat.lt_succ_self i)]
  · rw [if_neg h]
    unfold fullM
    by_cases hx : x = hb (x.headD 0)
    · have : x.headD 0 ≠ i := fun e => h (by rw [hx, e])
      by_cases hl : x.headD 0 < i
      · rw [if_pos ⟨hx, hl⟩, if_pos ⟨hx, by omega⟩]
      · rw [if_neg (fun h => hl h.2), if_neg (fun h => by omega)]
    · rw [if_neg (fun h => hx h.1), if_neg (fun h => hx h.1)]
/-- a table of the law's own -/
structure Tabs (w0 : World) (tb mb : Nat) (M : QM) (n : Nat) (w : World) : Prop where
  tab : TabAt w tb mb M n
  bel : Below w0.heap.size w0 w
  low : w0.heap.size ≤ mb
theorem Tabs.go {w0 w w' : World} {tb mb n n' k : Nat} {M M' : QM} {e : Ending} (h : Tabs w0 tb mb M n w) (t : TRes w tb mb M' n' k e w') : e = .returned (.int .i64 ((k : Nat) : Int)) ∧ Tabs w0 tb mb M' n' w' := by
  obtain ⟨he, ht, hf⟩ := t
  exact ⟨he, ht, h.bel.trans (hf.below h.low h.bel.size), h.low⟩
theorem tabs_ask {w0 w : World} {tb mb n k : Nat} {M : QM} (h : Tabs w0 tb mb M n w) {x id : List Nat} (hx : EH.ok x) (hi : EH.ok id) (buy : Bool) (most : Nat) (hm : most < 18446744073709551616) (hk : askC M n x id most = k) :
    Calls Try.prog 10 #[.pointer (some ⟨tb, 0, none⟩), .agg (nums .u8 x).toArray, .agg (nums .u8 id).toArray, .bool buy, .int .u64 most] w (fun e w' => e = .returned (.int .i64 ((k : Nat) : Int)) ∧ Tabs w0 tb mb (if k = 0 then updM M x (askQ x id buy most) else M) (if k = 0 then n + 1 else n) w') := by
  subst hk
  exact (ask_walk tb mb n M x id hx hi buy most hm w h.tab).mono fun e w' t => h.go t
/-- .. and a key in a variable -/
structure TabK (w0 : World) (tb mb : Nat) (M : QM) (n K : Nat) (x : List Nat) (w : World) : Prop where
  tabs : Tabs w0 tb mb M n w
  key : w.rangeAt K 0 (nums .u8 x)
  far : K ≠ mb
theorem TabK.go {w0 w w' : World} {tb mb n n' k K : Nat} {x : List Nat} {M M' : QM} {e : Ending} (h : TabK w0 tb mb M n K x w) (t : TRes w tb mb M' n' k e w') : e = .returned (.int .i64 ((k : Nat) : Int)) ∧ TabK w0 tb mb M' n' K x w' :=
  ⟨(h.tabs.go t).1, (h.tabs.go t).2, range_far t.2.2 h.key h.far, h.far⟩
theorem tabk_ask {w0 w : World} {tb mb n k K : Nat} {y : List Nat} {M : QM} (h : TabK w0 tb mb M n K y w) {x id : List Nat} (hx : EH.ok x) (hi : EH.ok id) (buy : Bool) (most : Nat) (hm : most < 18446744073709551616) (hk : askC M n x id most = k) :
    Calls Try.prog 10 #[.pointer (some ⟨tb, 0, none⟩), .agg (nums .u8 x).toArray, .agg (nums .u8 id).toArray, .bool buy, .int .u64 most] w (fun e w' => e = .returned (.int .i64 ((k : Nat) : Int)) ∧ TabK w0 tb mb (if k = 0 then updM M x (askQ x id buy most) else M) (if k = 0 then n + 1 else n) K y w') := by
  subst hk
  exact (ask_walk tb mb n M x id hx hi buy most hm w h.tabs.tab).mono fun e w' t => h.go t
theorem tabk_new {w0 w w' : World} {tb mb n : Nat} {M : QM} {x : List Nat} {z : Array Value} (h : Tabs w0 tb mb M n w) (hw : w' = (w.alloc (.cells z 30)).setRow w.heap.size (nums .u8 x).toArray) : TabK w0 tb mb M n w.heap.size x w' := by
  have L := laid w z (nums .u8 x).toArray 30
  rw [← hw] at L
  exact ⟨⟨h.tab.below L.2, bstep h.bel L.2, h.low⟩, row_range L.1, by have := h.tab.map.lt; omega⟩
theorem fullM_yes {i : Nat} {x : List Nat} : (fullM i x).isSome = true ↔ ∃ v, v < i ∧ x = hb v := by
  unfold fullM
  split
  · rename_i h
    exact ⟨fun _ => ⟨_, h.2, h.1⟩, fun _ => rfl⟩
  · rename_i h
    refine ⟨fun hh => (by cases hh), fun ⟨v, hv, e⟩ => ?_⟩
    subst e
    exact absurd ⟨rfl, hv⟩ h
def fullR (v : Nat) : QM := fun x => if x = hb v then none else fullM 256 x
theorem full_drop (v : Nat) : dropM (updM (fullM 256) (hb v) { askQ (hb v) h1x true 5 with st := 2 }) 0 = fullR v := by
  funext x
  unfold dropM fullR updM
  by_cases h : x = hb v
  · rw [if_pos h, if_pos h]
    rfl
  · rw [if_neg h, if_neg h]
    cases hx : fullM 256 x with
    | none => rfl
    | some q =>
      have hq : q.st = 0 := by
        unfold fullM at hx
        split at hx
        · cases hx; rfl
        · cases hx
      show (if dropQ 0 q = true then none else some q) = some q
      rw [if_neg]
      simp [dropQ, hq]
theorem hb_inj {a b : Nat} (h : hb a = hb b) : a = b := by simp only [hb, List.cons.injEq, and_true] at h; exact h
theorem full_count {v n' mb tb : Nat} {w : World} (hv : v < 256) (h : TabAt w tb mb (fullR v) n') : n' = 255 := by
  have hnd : ((List.range 256).erase v).Nodup := List.nodup_range.erase v
  have := h.map.count (ks := ((List.range 256).erase v).map hb) ?_ ?_ ?_
  · rw [← this, List.length_map, List.length_erase_of_mem (List.mem_range.2 hv), List.length_range]
  · rw [List.Nodup, List.pairwise_map]
    exact hnd.imp fun hne e => hne (hb_inj e)
  · intro x hx
    obtain ⟨a, ha, rfl⟩ := List.mem_map.1 hx
    exact hb_ok (List.mem_range.1 (List.mem_of_mem_erase ha))
  · intro x hx
    unfold valM
    rw [Option.isSome_map, List.mem_map]
    unfold fullR
    constructor
    · intro h
      split at h
      · cases h
      · rename_i hne
        obtain ⟨a, ha, rfl⟩ := fullM_yes.1 h
        exact ⟨a, (List.nodup_range.mem_erase_iff).2 ⟨fun e => hne (by rw [e]), List.mem_range.2 ha⟩, rfl⟩
    · rintro ⟨a, ha, rfl⟩
      have := (List.nodup_range.mem_erase_iff).1 ha
      rw [if_neg (fun e => this.1 (hb_inj e))]
      exact fullM_yes.2 ⟨a, List.mem_range.1 this.2, rfl⟩
set_option maxRecDepth 100000 in
set_option maxHeartbeats 4000000 in
theorem lawFull (n : Int) (_hn : (Lit.int .i64 n).wf = true) (w : World) : Calls Try.prog 6 #[.int .i64 n] w (fun e w' => e = .returned (.bool true) ∧ Below w.heap.size w w') := by
  have un := Try.underlying30
  obtain ⟨v, hv⟩ : ∃ v : Nat, v = (n % 256).toNat := ⟨_, rfl⟩
  have ev : IntKind.u8.wrap n = (v : Int) := by rw [IntKind.wrap_u8]; omega
  have hv256 : v < 256 := by omega
  have hiH : (Try.prog.info? 30).map (·.size) = some (nums .u8 (hb v)).length := by kernel_rfl
  have hiA : (Try.prog.info? 30).map (·.size) = some (nums .u8 (hb v)).toArray.size := by kernel_rfl
  have h1o := hid (all_oneCell_toArray (nums_oneCell .u8 (hb v)))
  have HV := hid hv
  clear hv
  go_enter Try.func6, Try.ntmps6
  go_wp2_with (fail)
  refine (thead_walk w).mono ?_
  rintro e w0 ⟨rfl, b0⟩
  have B0 := hid b0
  clear b0
  go_wp2_with (fail)
  refine (tnew_walk w0).mono ?_
  rintro e w1 ⟨tb, mb, rfl, t1, l1, l2, b1⟩
  have e0 : fullM 0 = fun _ => none := by funext x; simp [fullM]
  rw [← e0] at t1
  have T1 := hid (show Tabs w tb mb (fullM 0) 0 w1 from ⟨t1, bstep B0.out b1, by have := B0.out.size; omega⟩)
  clear t1 l1 l2 b1 B0
  go_wp2_with (fail)
  go_loopw [4] (fun x4 wr => ∃ i : Nat, i ≤ 256 ∧ x4 = .int .i64 ((i : Nat) : Int) ∧ Tabs w tb mb (fullM i) i wr) (fun x4 _ => 256 - (intOf x4).toNat)
  case atStart => exact ⟨0, by omega, rfl, T1.out⟩
  case round =>
    obtain ⟨i, hi, rfl, ht⟩ := hrel
    have HT := hid ht
    clear ht T1
    by_cases hlt : i < 256
    · have ei : IntKind.u8.wrap (i : Int) = (i : Int) := by rw [IntKind.wrap_u8]; omega
      go_wp2_with (fail)
      refine (tabs_ask (x := hb i) (id := h1x) (k := 0) HT.out (hb_ok hlt) h1_ok true 5 (by decide) (by simp [askC, fullM_new, h1_nz, hlt])).mono ?_
      rintro e w2 ⟨rfl, t2⟩
      rw [if_pos rfl, if_pos rfl, fullM_upd] at t2
      have T2 := hid t2
      clear t2 HT
      go_wp2_with (fail)
      go_roundw
      case rel => exact ⟨i + 1, by omega, by simp, T2.out⟩
      case measure => simp only [intOf, Int.toNat_natCast]; omega
    · obtain rfl : i = 256 := by omega
      go_upto_region 10 with (refine wpList_store_row rfl _ _ _ rfl wr.heap.size (nums .u8 (hb v)).toArray rfl rfl _ _ (heap_alloc_new wr _) hiA rfl h1o.out ?_)
      have R0 := fun z => hid (tabk_new (x := hb v) (z := z) HT.out rfl)
      generalize hK : wr.heap.size = K at *
      generalize hW : World.setRow _ K _ = w2
      replace R0 := hid (hW ▸ (R0 _).out : TabK w tb mb (fullM 256) 256 K (hb v) w2)
      clear hW hK HT
      go_wp2_with (fail)
      refine (tabk_ask (x := hx1) (id := h1x) (k := 4) R0.out hx1_ok h1_ok true 5 (by decide) (by simp [askC, fullM_hx, h1_nz])).mono ?_
      rintro e w3 ⟨rfl, t3⟩
      rw [if_neg (by decide), if_neg (by decide)] at t3
      have R1 := hid t3
      clear t3 R0
      have f := R1.out.key
      go_wp2_with (first | refine wpList_load_mid rfl _ _ rfl K 0 rfl (nums .u8 (hb v)) _ f un rfl hiH ?_ | refine wpList_load_midG rfl _ _ rfl K 0 rfl (nums .u8 (hb v)) _ f un rfl hiH ?_)
      refine (tabk_ask (x := hb v) (id := h1x) (k := 6) R1.out (hb_ok hv256) h1_ok true 5 (by decide) (by simp [askC, fullM_at hv256, h1_nz])).mono ?_
      rintro e w4 ⟨rfl, t4⟩
      rw [if_neg (by decide), if_neg (by decide)] at t4
      have R2 := hid t4
      clear t4 R1 f
      have f := R2.out.key
      go_wp2_with (first | refine wpList_load_mid rfl _ _ rfl K 0 rfl (nums .u8 (hb v)) _ f un rfl hiH ?_ | refine wpList_load_midG rfl _ _ rfl K 0 rfl (nums .u8 (hb v)) _ f un rfl hiH ?_)
      refine (rej_walk tb mb 256 (fullM 256) (hb v) (hb_ok hv256) w4 R2.out.tabs.tab).mono ?_
      intro e w5 t5
      have hr : rejS (fullM 256 (hb v)) = ({ askQ (hb v) h1x true 5 with st := 2 }, 0) := by rw [fullM_at hv256]; rfl
      rw [hr] at t5
      obtain ⟨rfl, t5'⟩ := R2.out.go t5
      have R3 := hid t5'
      clear t5 t5' R2 f
      go_wp2_with (fail)
      refine (drop_walk tb mb 256 _ 0 w5 R3.out.tabs.tab).mono ?_
      rintro e w6 ⟨k, n', rfl, hk, t6, f6⟩
      rw [show resM (fullM 256) (hb v) ({ askQ (hb v) h1x true 5 with st := 2 }, 0) = updM (fullM 256) (hb v) { askQ (hb v) h1x true 5 with st := 2 } from if_pos rfl, full_drop] at t6
      obtain rfl := full_count hv256 t6
      obtain rfl : k = 1 := by omega
      have T6 := hid (show Tabs w tb mb (fullR v) 255 w6 from ⟨t6, R3.out.tabs.bel.trans (f6.below R3.out.tabs.low R3.out.tabs.bel.size), R3.out.tabs.low⟩)
      clear t6 f6 R3
      go_wp2_with (fail)
      refine (tabs_ask (x := hx1) (id := h1x) (k := 0) T6.out hx1_ok h1_ok true 5 (by decide) (by
        have hne : hx1 ≠ hb v := by intro e; simp [hx1, hb] at e
        simp [askC, h1_nz, fullR, hne, fullM_hx])).mono ?_
      rintro e w7 ⟨rfl, t7⟩
      rw [if_pos rfl, if_pos rfl] at t7
      have T7 := hid t7
      clear t7 T6
      go_wp2_with (fail)
      refine (all_walk tb mb 256 _ w7 T7.out.tab).mono ?_
      rintro e w8 ⟨a, cap, qs, ks, rfl, _, _, _, _, _, b8⟩
      have B8 := hid b8
      clear b8
      go_wp2
      go_ret
      exact ⟨rfl, T7.out.bel.trans (B8.out.mono T7.out.bel.size)⟩
end Go.Proofs.Ytibjkpejbihcpaa
