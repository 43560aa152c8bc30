/- The walks of plain (records copied) and of the reference's SameAll. -/
import Derived.Test.YtfcnpmkpdikgeaaEnc
namespace Go.Proofs.Ytfcnpmkpdikgeaa
open Go.RowKit

theorem infoRec : (Try.prog.info? 39).map (fun i => (i.zero, i.size, i.bytes)) = some (some (.agg #[.int .u64 0, .slice none 0 0]), 2, 32) := by kernel_rfl
theorem infoRec2 : (Try.prog.info? 59).map (fun i => (i.zero, i.size, i.bytes)) = some (some (.agg #[.int .u64 0, .slice none 0 0]), 2, 32) := by kernel_rfl
theorem tyRec : SliceTy Try.prog 35 39 2 32 (.agg #[.int .u64 0, .slice none 0 0]) := .mk' Try.underlying35 infoRec rfl (by decide)
theorem tyRec2 : SliceTy Try.prog 48 59 2 32 (.agg #[.int .u64 0, .slice none 0 0]) := .mk' Try.underlying48 infoRec2 rfl (by decide)
/-- a new slice of records: these -/
def RecsV (w : World) (v : Value) (ls : List LR) : Prop := ∃ a c, v = .slice a ls.length c ∧ Recs w a ls.length c ls
def PlainRes (w : World) (ls : List LR) (e : Ending) (w' : World) : Prop := ∃ v, e = .returned v ∧ RecsV w' v ls ∧ Below w.heap.size w w'
set_option maxHeartbeats 1000000 in
theorem plain_walk (a : Option Addr) (n cap : Nat) (ls : List LR) (hn : n ≤ 1000000) (w : World) (h : Recs w a n cap ls) :
    Calls Try.prog 23 #[.slice a n cap] w (PlainRes w ls) := by
  have HL := hid h.2.1
  have O1 := hid (World.ownsRow_made (base := w.heap.size) (e := 59) (size := 2) w #[] 0 (Nat.le_refl _) (by simp) (by simp))
  have B1 := hid ((Below.refl w.heap.size w).alloc (Nat.le_refl _) (.cells #[] 59))
  go_enter Try.func23, Try.ntmps23
  go_wp2
  go_loopw [3, 9] (fun x3 i0 wr => ∃ (k : Nat) (v : Value), k ≤ n ∧ v = x3 ∧ i0 = .int .i64 k ∧ wr.ownsRow w.heap.size 59 2 v k ((ls.take k).flatMap LR.cells) ∧ Below w.heap.size w wr) (fun _ i0 _ => n - (intOf i0).toNat)
  case atStart => exact ⟨0, _, by omega, rfl, rfl, O1.out, B1.out⟩
  case round =>
    obtain ⟨k, v, hk, rfl, rfl, hown, hb⟩ := hrel
    by_cases hlt : k < n
    · obtain ⟨r, hr⟩ := get_some HL.out hlt
      obtain ⟨b, off, rfl, c0, c1, gd⟩ := (h.below hb).cells hr
      have HI := hid h
      have bb := (Below.refl wr.heap.size wr).alloc (Nat.le_refl _) (.cells #[.int .u64 (r.t : Int), .slice r.a r.v.length r.c] 39)
      have O2 := hid (own_below hown bb)
      have B2 := hid (bstep hb bb)
      have HN := hid (show (ls.take (k + 1)).flatMap LR.cells = (ls.take k).flatMap LR.cells ++ [.int .u64 (r.t : Int), .slice r.a r.v.length r.c] by rw [take_succ_some hr, List.flatMap_append]; simp [LR.cells])
      clear h gd hown hb bb hr
      go_wp2_with (at_builtin; refine wpList_pushAt rfl _ _ 48 rfl tyRec2 w.heap.size O2.out rfl (wr.heap.size + 1) (by simp) rfl rfl rfl (by omega) (by decide) B2.out.size ?_)
      intro v1 w1 hown1 hb1 hs1 _
      have O3 := hid hown1
      have B3 := B2.out.trans hb1
      clear hown1 hb1 hs1 O2 B2
      go_wp2
      go_roundw
      case rel => exact ⟨k + 1, _, by omega, rfl, by go_num, by rw [HN.out]; exact O3.out, B3⟩
      case measure => simp [intOf]; omega
    · obtain rfl : k = n := by omega
      rw [List.take_of_length_le (by rw [HL.out]; exact Nat.le_refl _)] at hown
      obtain ⟨a', c', rfl, hrd⟩ := Rd.of_owns hown
      have F := hid (show RecsV wr (.slice a' k c') ls from ⟨a', c', by rw [HL.out], by rw [HL.out]; exact ⟨hrd, HL.out, fun l hl => (h.2.2 l hl).below hb⟩⟩)
      clear hown hrd h
      go_wp2
      go_ret
      exact ⟨_, rfl, F.out, hb⟩

theorem samePr_step {xs ys : List LR} {k : Nat} {x y : LR} (h1 : (xs.take k).map LR.pr = (ys.take k).map LR.pr) (hx : xs[k]? = some x) (hy : ys[k]? = some y) (e : x.t = y.t) (e' : x.v = y.v) : (xs.take (k + 1)).map LR.pr = (ys.take (k + 1)).map LR.pr := by
  rw [take_succ_some hx, take_succ_some hy, List.map_append, List.map_append, h1]
  simp [LR.pr, e, e']
theorem samePr_not {xs ys : List LR} {k : Nat} {x y : LR} (hx : xs[k]? = some x) (hy : ys[k]? = some y) (e : ¬ (x.t = y.t ∧ x.v = y.v)) : decide (xs.map LR.pr = ys.map LR.pr) = false := by
  rw [decide_eq_false_iff_not]
  intro h
  have := congrArg (fun l => l[k]?) h
  simp [hx, hy, LR.pr] at this
  exact e this
set_option maxRecDepth 100000 in
set_option maxHeartbeats 1000000 in
theorem sameall_walk (a : Option Addr) (n cap : Nat) (xs : List LR) (a' : Option Addr) (m cap' : Nat) (ys : List LR) (hn : n ≤ 1000000) (w : World) (h : Recs w a n cap xs) (h' : Recs w a' m cap' ys) :
    Calls Try.prog 25 #[.slice a n cap, .slice a' m cap'] w fun e w' => e = .returned (.bool (decide (xs.map LR.pr = ys.map LR.pr))) ∧ Qt w w' := by
  have HL := hid h.2.1
  have HL' := hid h'.2.1
  by_cases hnm : n = m
  · subst hnm
    have tn : ((n : Int) != (n : Int)) = false := by simp
    go_enter Try.func25, Try.ntmps25
    go_wp2
    go_loopw [13] (fun i0 wr => ∃ k : Nat, k ≤ n ∧ i0 = .int .i64 k ∧ Hid ((xs.take k).map LR.pr = (ys.take k).map LR.pr) ∧ Qt w wr) (fun i0 _ => n - (intOf i0).toNat)
    case atStart => exact ⟨0, by omega, rfl, hid rfl, Qt.refl _⟩
    case round =>
      obtain ⟨k, hk, rfl, hs, hq⟩ := hrel
      by_cases hlt : k < n
      · obtain ⟨x, hx⟩ := get_some HL.out hlt
        obtain ⟨y, hy⟩ := get_some HL'.out hlt
        obtain ⟨b, off, rfl, c0, c1, gx⟩ := (h.below (hq.below _)).cells hx
        obtain ⟨b2, off2, rfl, d0, d1, gy⟩ := (h'.below (hq.below _)).cells hy
        have HH := hid (And.intro h h')
        have HX := hid hx
        have HY := hid hy
        have GX := hid gx
        have GY := hid gy
        clear h h' hx hy gx gy
        by_cases ht : x.t = y.t
        · have te : ((x.t : Int) != (y.t : Int)) = false := by simp [ht]
          by_cases hv : x.v = y.v
          · have C := fun wx s1 s2 => hid (same_walk x.a y.a x.v.length x.c y.v.length y.c x.v y.v GX.out.2.2.1 GY.out.2.2.1 wx s1 s2)
            rw [decide_eq_true hv] at C
            have H2 := hid (samePr_step hs.out HX.out HY.out ht hv)
            clear ht hv hs
            go_wp2_with fail
            go_quiet ((go_at_call 12; exact quiet_same (C _ (GX.out.2.1.below (below_drewN (Below.refl _ _) _)) (GY.out.2.1.below (below_drewN (Below.refl _ _) _))).out))
            go_wp2
            go_roundw
            case rel => exact ⟨k + 1, by omega, by go_num, H2, hq.dN _⟩
            case measure => simp [intOf]; omega
          · have C := fun wx s1 s2 => hid (same_walk x.a y.a x.v.length x.c y.v.length y.c x.v y.v GX.out.2.2.1 GY.out.2.2.1 wx s1 s2)
            rw [decide_eq_false hv] at C
            have FI := hid (samePr_not HX.out HY.out (fun k => hv k.2))
            clear ht hv hs
            go_wp2_with fail
            go_quiet ((go_at_call 12; exact quiet_same (C _ (GX.out.2.1.below (below_drewN (Below.refl _ _) _)) (GY.out.2.1.below (below_drewN (Below.refl _ _) _))).out))
            go_wp2
            go_ret
            exact ⟨by rw [FI.out]; rfl, hq.dN _⟩
        · have te : ((x.t : Int) != (y.t : Int)) = true := by simp; omega
          have FI := hid (samePr_not HX.out HY.out (fun k => ht k.1))
          clear ht hs
          go_wp2_with fail
          go_quiet (fail)
          go_wp2
          go_ret
          exact ⟨by rw [FI.out]; rfl, hq.dN _⟩
      · obtain rfl : k = n := by omega
        have hs' := hs.out
        rw [List.take_of_length_le (by rw [HL.out]; exact Nat.le_refl _), List.take_of_length_le (by rw [HL'.out]; exact Nat.le_refl _)] at hs'
        have FI := hid (decide_eq_true hs')
        clear hs hs' h h'
        go_wp2
        go_ret
        exact ⟨by rw [FI.out]; rfl, hq⟩
  · have tn : ((n : Int) != (m : Int)) = true := by simp; omega
    have FI := hid (show decide (xs.map LR.pr = ys.map LR.pr) = false by
      rw [decide_eq_false_iff_not]; intro e
      have := congrArg List.length e
      simp [HL.out, HL'.out] at this
      exact hnm this)
    go_enter Try.func25, Try.ntmps25
    go_wp2
    go_ret
    exact ⟨by rw [FI.out]; rfl, Qt.refl _⟩
end Go.Proofs.Ytfcnpmkpdikgeaa
