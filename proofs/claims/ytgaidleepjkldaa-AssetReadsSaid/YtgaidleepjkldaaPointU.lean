/- The reference's GetPoint at what is a point. -/
import Derived.Test.YtgaidleepjkldaaPointT
import Derived.Lib.LazyBuf
namespace Go.Proofs.Ytgaidleepjkldaa
open Go.RowKit

theorem results_mid_tmp2 {P : Program} {fn : Func} {p q q2 : Tmp} {ty : TypeId} (h : fn.results = #[.cell p ty, .tmp q, .tmp q2]) (tmps : Array Value) (w : World) (g : Nat) (cs : List Value) (d : TypeDesc) (v v2 : Value)
    (hp : tmps.getD p undef = .pointer (some ⟨g, 0, none⟩)) (hq : tmps.getD q undef = v) (hq2 : tmps.getD q2 undef = v2) (hc : w.rangeAt g 0 cs)
    (hu : P.underlying ty = some d) (hd : d.isRow = true) (hi : (P.info? ty).map (·.size) = some cs.length) :
    (results fn tmps).run P w = .ok (.tuple #[.agg cs.toArray, v, v2]) w := by
  have hp' : tmps[p]?.getD undef = .pointer (some ⟨g, 0, none⟩) := by simpa using hp
  have hq' : tmps[q]?.getD undef = v := by simpa using hq
  have hq2' : tmps[q2]?.getD undef = v2 := by simpa using hq2
  simp [results, h, hp', hq', hq2', asAddr, run_loadVar_mid w g 0 ty cs d hc hu hd hi]
theorem there_of_heap {w : World} {g : Nat} {cs : Array Value} {t : TypeId} {n : Nat} (h : w.heap[g]? = some (.cells cs t (0, 0))) (hn : n ≤ cs.size) : w.there g 0 n := fun j hj =>
  ⟨by rw [cell_of_row _ g _ _ t (0, 0) h, Nat.zero_add, Array.getElem?_eq_getElem (by omega)]; rfl, frozen_of_row _ _ _ _ _ h⟩
theorem there_below {w w' : World} {g n : Nat} (hb : Below w.heap.size w w') (h : w.there g 0 n) (hg : g < w.heap.size) : w'.there g 0 n := fun j hj =>
  ⟨by rw [hb.cell (p := ⟨g, 0 + j, none⟩) hg]; exact (h j hj).1, (hb.frozen (p := ⟨g, 0 + j, none⟩) hg).trans (h j hj).2⟩
set_option maxRecDepth 100000 in
set_option maxHeartbeats 2000000 in
theorem rget_good (a : Option Addr) (cap : Nat) (bs : List Nat) (hbs : ∀ d ∈ bs, d < 256) (w : World) (h : Sl .u8 w a 36 cap bs) (hx : bs.getD 32 0 = 0 ∧ bs.getD 33 0 = 0 ∧ bs.getD 34 0 = 0) :
    Calls Try.prog 12 #[.slice a 36 cap] w (RGet w bs) := by
  have e : getP bs = (bs.take 32, bs.getD 35 0, 0) := by unfold getP; rw [if_pos h.len, if_pos hx]
  have HL := hid h.len
  obtain ⟨b, off, ha, hc⟩ := h.opened
  obtain rfl := ha (by decide)
  have h0 := hid (heap_alloc_new w (.cells hzl 22))
  have bb := (Below.refl w.heap.size w).alloc (Nat.le_refl _) (.cells hzl 22)
  have HB := hid bb
  have hr := h.below bb
  have HR := hid hr
  obtain ⟨b', off', ha', hc'⟩ := hr.opened
  simp at ha'
  obtain ⟨rfl, rfl⟩ := ha'
  have c32 := hc' 32 (by decide)
  have c33 := hc' 33 (by decide)
  have c34 := hc' 34 (by decide)
  have c35 := hc' 35 (by decide)
  obtain ⟨hx1, hx2, hx3⟩ := hx
  generalize bs.getD 32 0 = x at *
  generalize bs.getD 33 0 = y at *
  generalize bs.getD 34 0 = z at *
  have hx0 : ¬ 0 < x := by omega
  have hy0 : ¬ 0 < y := by omega
  have hz0 : ¬ 0 < z := by omega
  have d35 := getDlt hbs 35
  generalize bs.getD 35 0 = u at *
  have eu : IntKind.i64.wrap (u : Int) = (u : Int) := by simp [IntKind.wrap, IntKind.bits, IntKind.signed]; omega
  have E := hid e
  have th := there_of_heap (n := 32) h0.out (by decide)
  have hne := hid (show b ≠ w.heap.size by have := World.block_lt_of_cell? w _ (hc 35 (by decide)); simp at this; omega)
  clear hc hc' hr h bb e ha hx1 hx2 hx3
  have hlen32 : (bs.take 32).length = 32 := by rw [List.length_take, HL.out]; decide
  have hi : (Try.prog.info? 22).map (·.size) = some (nums .u8 (bs.take 32)).length := by rw [nums_length, hlen32]; exact info32
  have h1 : ∀ v ∈ nums .u8 (bs.take 32), v.oneCell' = true := nums_oneCell _ _
  have hln : (nums .u8 (bs.take 32)).length = 32 := by rw [nums_length, hlen32]
  clear hlen32
  have R32 := fun (wx : World) (hx : Sl .u8 wx (some ⟨b, off, none⟩) 36 cap bs) => hid (read32_walk (some ⟨b, off, none⟩) 36 cap bs (by decide) wx hx)
  go_enter Try.func12, Try.ntmps12
  go_upto_region 3 with (fail)
  show Code.wp _ _ _ _ (w.alloc (.cells hzl 22))
  have hlt : w.heap.size < (w.alloc (.cells hzl 22)).heap.size := by simp
  have hbl : b < (w.alloc (.cells hzl 22)).heap.size := World.block_lt_of_cell? _ _ c35
  generalize w.alloc (.cells hzl 22) = w1 at *
  obtain ⟨G, hG⟩ : ∃ G, G = w.heap.size := ⟨_, rfl⟩
  rw [← hG] at th hlt hne ⊢
  have HG := hid hG
  clear hG h0
  go_wp2_with fail
  go_region_held3 (fun w' => w'.cell? ⟨b, off + 35, none⟩ = some (.int .u8 (u : Int)) ∧ w'.there G 0 32)
    (first
      | exact ⟨c35, th⟩
      | exact ⟨c35b, thb⟩
      | exact ⟨(World.cell?_setCells_out _ _ _ _ _ (fun hb => absurd hb hne.out)).trans c35b, World.there_setCells thb _ _ _⟩
      | fail)
    ((go_at_call 21; (refine (R32 _ ?_).out.mono ?_); (exact HR.out); (rintro e w2 ⟨rfl, b2⟩); (have c35b := (b2.cell (p := ⟨b, off + 35, none⟩) hbl).trans c35); (have thb := there_below b2 th hlt)))
  all_goals
    have HRA := hid (show World.rangeAt _ G 0 (nums .u8 (bs.take 32)) from World.rangeAt_setCells_same _ G 0 (nums .u8 (bs.take 32)) (by rw [hln]; exact thb))
    have HBE := hid (Go.below_setCells (show w.heap.size ≤ G by rw [HG.out]; exact Nat.le_refl _) (nums .u8 (bs.take 32)) 0 _ (HB.out.trans ((((Below.refl _ _).drew).trans b2).mono HB.out.size)))
    have HI := hid hi
    clear th thb c35 c35b b2 hi h1 eu R32
    go_wp2
    (try simp only [Exit.inBlock, Exit.then])
    refine bodyPost_ret (results_mid_tmp2 rfl _ _ G (nums .u8 (bs.take 32)) _ _ _ rfl rfl rfl HRA.out Try.underlying22 rfl HI.out) rfl ?_
    exact ⟨by rw [E.out]; rfl, HBE.out⟩
theorem rget_walk (a : Option Addr) (n cap : Nat) (bs : List Nat) (hbs : ∀ d ∈ bs, d < 256) (w : World) (h : Sl .u8 w a n cap bs) :
    Calls Try.prog 12 #[.slice a n cap] w (RGet w bs) := by
  by_cases hn : n = 36
  · subst hn
    by_cases hx : bs.getD 32 0 = 0 ∧ bs.getD 33 0 = 0 ∧ bs.getD 34 0 = 0
    · exact rget_good a cap bs hbs w h hx
    · exact rget_high a cap bs w h hx
  · exact rget_bad a n cap bs hn w h
end Go.Proofs.Ytgaidleepjkldaa
