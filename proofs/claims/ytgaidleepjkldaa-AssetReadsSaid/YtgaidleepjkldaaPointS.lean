/- The reference's GetPoint: refusals. -/
import Derived.Test.YtgaidleepjkldaaPointR
import Derived.Deep.Cut
namespace Go.Proofs.Ytgaidleepjkldaa
open Go.RowKit

theorem results_cell_tmp2 {P : Program} {fn : Func} {p q q2 : Tmp} {ty : TypeId} (h : fn.results = #[.cell p ty, .tmp q, .tmp q2]) (tmps : Array Value) (w : World) (g : Nat) (t : TypeId) (cs : Array Value) (fr : Nat × Nat) (d : TypeDesc) (v v2 : Value)
    (hp : tmps.getD p undef = .pointer (some ⟨g, 0, none⟩)) (hq : tmps.getD q undef = v) (hq2 : tmps.getD q2 undef = v2) (hg : w.heap[g]? = some (.cells cs t fr))
    (hu : P.underlying ty = some d) (hd : (match d with | .struct _ | .array _ _ => true | _ => false) = true) (hi : (P.info? ty).map (·.size) = some cs.size) :
    (results fn tmps).run P w = .ok (.tuple #[.agg cs, v, v2]) w := by
  have hp' : tmps[p]?.getD undef = .pointer (some ⟨g, 0, none⟩) := by simpa using hp
  have hq' : tmps[q]?.getD undef = v := by simpa using hq
  have hq2' : tmps[q2]?.getD undef = v2 := by simpa using hq2
  simp [results, h, hp', hq', hq2', asAddr, run_loadVar_row w g t ty cs fr d hg hu hd hi]
def hz : Array Value := (nums .u8 pzero).toArray
def hzl : Array Value := #[.int .u8 0, .int .u8 0, .int .u8 0, .int .u8 0, .int .u8 0, .int .u8 0, .int .u8 0, .int .u8 0, .int .u8 0, .int .u8 0, .int .u8 0, .int .u8 0, .int .u8 0, .int .u8 0, .int .u8 0, .int .u8 0, .int .u8 0, .int .u8 0, .int .u8 0, .int .u8 0, .int .u8 0, .int .u8 0, .int .u8 0, .int .u8 0, .int .u8 0, .int .u8 0, .int .u8 0, .int .u8 0, .int .u8 0, .int .u8 0, .int .u8 0, .int .u8 0]
theorem hzl_hz : hzl = hz := by unfold hzl hz pzero; rw [nums_replicate]; rfl
theorem hzl_one : hzl.all (·.oneCell') = true := by kernel_rfl
theorem info32 : (Try.prog.info? 22).map (·.size) = some 32 := by kernel_rfl
def RGet (w : World) (bs : List Nat) (e : Ending) (w' : World) : Prop := e = .returned (.tuple #[.agg (nums .u8 (getP bs).1).toArray, .int .i64 ((getP bs).2.1 : Int), .int .i64 ((getP bs).2.2 : Int)]) ∧ Below w.heap.size w w'
theorem rget_bad (a : Option Addr) (n cap : Nat) (bs : List Nat) (hn : n ≠ 36) (w : World) (h : Sl .u8 w a n cap bs) :
    Calls Try.prog 12 #[.slice a n cap] w (RGet w bs) := by
  have e : getP bs = (pzero, 0, 21) := by unfold getP; rw [if_neg (by rw [h.len]; exact hn)]
  have h0 := hid (heap_alloc_new w (.cells hzl 22))
  have B := hid (below_setRow ((Below.refl w.heap.size w).alloc (Nat.le_refl _) (.cells hzl 22)) (Nat.le_refl _) hzl)
  have h1 := hid (setRow_heap (w.alloc (.cells hzl 22)) w.heap.size _ hzl _ _ h0.out)
  have E := hid e
  have t1 : ((n : Int) == 36) = false := by simp; omega
  clear e hn h
  go_enter Try.func12, Try.ntmps12
  go_wp2_with (refine wpList_store_row rfl _ _ _ rfl w.heap.size hzl rfl rfl _ _ h0.out info32 rfl hzl_one ?_)
  (try simp only [Exit.inBlock, Exit.then])
  refine bodyPost_ret (results_cell_tmp2 rfl _ _ w.heap.size _ hzl _ _ _ _ rfl rfl rfl h1.out Try.underlying22 rfl info32) rfl ?_
  exact ⟨by rw [E.out, hzl_hz]; rfl, B.out⟩
theorem rget_high (a : Option Addr) (cap : Nat) (bs : List Nat) (w : World) (h : Sl .u8 w a 36 cap bs) (hx : ¬(bs.getD 32 0 = 0 ∧ bs.getD 33 0 = 0 ∧ bs.getD 34 0 = 0)) :
    Calls Try.prog 12 #[.slice a 36 cap] w (RGet w bs) := by
  have e : getP bs = (pzero, 0, 1) := by unfold getP; rw [if_pos h.len, if_neg hx]
  obtain ⟨b, off, ha, hc⟩ := h.opened
  obtain rfl := ha (by decide)
  have h0 := hid (heap_alloc_new w (.cells hzl 22))
  have bb := (Below.refl w.heap.size w).alloc (Nat.le_refl _) (.cells hzl 22)
  have B := hid (below_setRow bb (Nat.le_refl _) hzl)
  have h1 := hid (setRow_heap (w.alloc (.cells hzl 22)) w.heap.size _ hzl _ _ h0.out)
  have E := hid e
  have hr := h.below bb
  obtain ⟨b', off', ha', hc'⟩ := hr.opened
  simp at ha'
  obtain ⟨rfl, rfl⟩ := ha'
  have c32 := hc' 32 (by decide)
  have c33 := hc' 33 (by decide)
  have c34 := hc' 34 (by decide)
  generalize bs.getD 32 0 = x at *
  generalize bs.getD 33 0 = y at *
  generalize bs.getD 34 0 = z at *
  clear hc hc' hr h bb e ha
  by_cases hx0 : 0 < x
  all_goals by_cases hy0 : 0 < y
  all_goals by_cases hz0 : 0 < z
  all_goals first | (exfalso; omega) | skip
  all_goals
    go_enter Try.func12, Try.ntmps12
    go_upto_region 3 with (fail)
    show Code.wp _ _ _ _ (w.alloc (.cells hzl 22))
    generalize w.alloc (.cells hzl 22) = w1 at *
    go_wp2_with (refine wpList_store_row rfl _ _ _ rfl w.heap.size hzl rfl rfl _ _ h0.out info32 rfl hzl_one ?_)
    (try simp only [Exit.inBlock, Exit.then])
    refine bodyPost_ret (results_cell_tmp2 rfl _ _ w.heap.size _ hzl _ _ _ _ rfl rfl rfl h1.out Try.underlying22 rfl info32) rfl ?_
    exact ⟨by rw [E.out, hzl_hz]; rfl, B.out⟩
end Go.Proofs.Ytgaidleepjkldaa
