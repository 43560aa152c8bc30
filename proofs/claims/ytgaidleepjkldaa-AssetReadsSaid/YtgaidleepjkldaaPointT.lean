/- The reference's Read32, and its GetPoint where it is one. -/
import Derived.Test.YtgaidleepjkldaaPointS
import Derived.Test.YtgaidleepjkldaaHash
import Derived.Deep.RegionHeld3
namespace Go.Proofs.Ytgaidleepjkldaa
open Go.RowKit

theorem alloc2p (w : World) (a b : Obj) : ((w.alloc a).alloc b).heap[w.heap.size]? = some a ∧ ((w.alloc a).alloc b).heap[w.heap.size + 1]? = some b ∧ ((w.alloc a).alloc b).heap.size = w.heap.size + 1 + 1 ∧ Below w.heap.size w ((w.alloc a).alloc b) := by
  have e1 : (w.alloc a).heap.size = w.heap.size + 1 := by simp
  have h0 := heap_alloc_new w a
  have h1 := heap_alloc_new (w.alloc a) b
  rw [e1] at h1
  exact ⟨by rw [Below.heap_alloc _ _ _ (by omega)]; exact h0, h1, by simp, ((Below.refl w.heap.size w).alloc (Nat.le_refl _) a).alloc (by omega) b⟩
def pz (l : List Nat) : List Nat := l ++ List.replicate (32 - l.length) 0
theorem pz_len {l : List Nat} (h : l.length ≤ 32) : (pz l).length = 32 := by simp [pz]; omega
theorem pz_set {l : List Nat} {k : Nat} (hl : l.length = k) (hk : k < 32) (d : Nat) : (pz l).set k d = pz (l ++ [d]) := by
  subst hl
  obtain ⟨m, hm⟩ : ∃ m, 32 - l.length = m + 1 := ⟨32 - l.length - 1, by omega⟩
  have h2 : 32 - (l ++ [d]).length = m := by simp; omega
  unfold pz
  rw [hm, h2, List.set_append_right _ _ (Nat.le_refl _), Nat.sub_self, List.replicate_succ, List.set_cons_zero]
  simp
theorem pz_full {l : List Nat} (h : l.length = 32) : pz l = l := by simp [pz, h]
theorem take_snoc {bs : List Nat} {k : Nat} (h : k < bs.length) : bs.take (k + 1) = bs.take k ++ [bs.getD k 0] := by
  rw [List.take_add_one, List.getElem?_eq_getElem h, List.getD_eq_getElem?_getD, List.getElem?_eq_getElem h]; rfl
theorem hzl_pz : hzl.toList = nums .u8 (pz []) := by rw [hzl_hz]; rfl
theorem results_cellH {P : Program} {fn : Func} {p : Tmp} {ty : TypeId} (h : fn.results = #[.cell p ty]) (tmps : Array Value) (w : World) (g : Nat) (t : TypeId) (cs : Array Value) (fr : Nat × Nat) (d : TypeDesc)
    (hp : tmps.getD p undef = .pointer (some ⟨g, 0, none⟩)) (hg : w.heap[g]? = some (.cells cs t fr))
    (hu : P.underlying ty = some d) (hd : (match d with | .struct _ | .array _ _ => true | _ => false) = true) (hi : (P.info? ty).map (·.size) = some cs.size) :
    (results fn tmps).run P w = .ok (.agg cs) w := by
  have hp' : tmps[p]?.getD undef = .pointer (some ⟨g, 0, none⟩) := by simpa using hp
  simp [results, h, hp', asAddr, run_loadVar_row w g t ty cs fr d hg hu hd hi]
set_option maxRecDepth 100000 in
set_option maxHeartbeats 1000000 in
theorem read32_walk (a : Option Addr) (n cap : Nat) (bs : List Nat) (hn : 32 ≤ n) (w : World) (h : Sl .u8 w a n cap bs) :
    Calls Try.prog 21 #[.slice a n cap] w fun e w' => e = .returned (hv (bs.take 32)) ∧ Below w.heap.size w w' := by
  obtain ⟨b, off, ha, _⟩ := h.opened
  obtain rfl := ha (by omega)
  have HL := hid h.len
  have HI := hid h
  have A2 := alloc2p w (.cells hzl 22) (.cells hzl 22)
  have hW1 := hid (setRow_heap _ (w.heap.size + 1) _ hzl _ _ A2.2.1)
  have hW0 := hid (show (((w.alloc (.cells hzl 22)).alloc (.cells hzl 22)).setRow (w.heap.size + 1) hzl).heap[w.heap.size]? = some (.cells hzl 22 (0, 0)) by rw [setRow_other _ _ _ _ (by omega)]; exact A2.1)
  have hWB := hid (below_setRow A2.2.2.2 (show w.heap.size ≤ w.heap.size + 1 by omega) hzl)
  have hA := hid A2.2.1
  clear A2 ha h
  go_enter Try.func21, Try.ntmps21
  go_wp2_with (refine wpList_store_row rfl _ _ _ rfl (w.heap.size + 1) hzl rfl rfl _ _ hA.out info32 rfl hzl_one ?_)
  show Code.wp _ _ _ _ (((w.alloc (.cells hzl 22)).alloc (.cells hzl 22)).setRow (w.heap.size + 1) hzl)
  clear hA
  generalize ((w.alloc (.cells hzl 22)).alloc (.cells hzl 22)).setRow (w.heap.size + 1) hzl = W at *
  obtain ⟨G, hG⟩ : ∃ G, G = w.heap.size + 1 := ⟨_, rfl⟩
  obtain ⟨F, hF⟩ : ∃ F, F = w.heap.size := ⟨_, rfl⟩
  rw [← hG] at hW1 ⊢
  rw [← hF] at hW0 ⊢
  have HG := hid hG
  have HF := hid hF
  clear hG hF
  have O0 := hid (own_of_heap (B := G) hW1.out hzl_pz (by rw [nums_length, pz_len (by decide)]) (Nat.le_refl _) (show 32 ≤ maxLen by decide))
  go_wp2
  go_loopw [4] (fun x4 wr => ∃ k : Nat, k ≤ 32 ∧ x4 = .int .i64 k ∧ wr.ownsRow G 22 1 (.slice (some ⟨G, 0, none⟩) 32 32) 32 (nums .u8 (pz (bs.take k))) ∧ Far G W wr) (fun x4 _ => 32 - (intOf x4).toNat)
  case atStart => exact ⟨0, by omega, rfl, O0.out, Far.refl _ _⟩
  case round =>
    obtain ⟨k, hk, rfl, how, hf⟩ := hrel
    clear O0
    have HB := hid (hWB.out.trans (hf.below (show w.heap.size ≤ G by have := HG.out; omega) hWB.out.size))
    have HW := hid how
    have HFA := hid hf
    by_cases hlt : k < 32
    · obtain ⟨b', off', ha', hc'⟩ := (HI.out.below HB.out).opened
      have ha2 := ha' (by omega)
      simp only [Option.some.injEq, Addr.mk.injEq, and_true] at ha2
      obtain ⟨rfl, rfl⟩ := ha2
      have ck := hc' k (by omega)
      have hpl : (pz (bs.take k)).length = 32 := pz_len (by rw [List.length_take]; omega)
      have ok := how.cellAt k (by omega)
      rw [nums_get .u8 (by omega)] at ok
      have fk := how.frozenAt k
      have hst := hid (And.intro (own_store how k (z := ((bs.getD k 0 : Nat) : Int)) (d := bs.getD k 0) rfl).1 (hf.trans (Far.set (H := G) (j := k) (.int .u8 ((bs.getD k 0 : Nat) : Int)))))
      rw [pz_set (by rw [List.length_take, HL.out]; omega) hlt, ← take_snoc (by rw [HL.out]; omega)] at hst
      have hkn : (k : Int) < (n : Int) := by omega
      generalize bs.getD k 0 = d at *
      generalize (pz (bs.take k)).getD k 0 = d0 at *
      clear hc' how hf hpl ha'
      go_wp2
      go_roundw
      case rel => exact ⟨k + 1, by omega, by go_num, hst.out.1, hst.out.2⟩
      case measure => simp [intOf]; omega
    · obtain rfl : k = 32 := by omega
      have hl32 : (bs.take 32).length = 32 := by rw [List.length_take, HL.out]; omega
      rw [pz_full hl32] at HW
      have HR := hid (show wr.rangeAt G 0 (nums .u8 (bs.take 32)) from fun j v hj => by
        have hj' : j < 32 := by have := (List.getElem?_eq_some_iff.1 hj).1; rw [nums_length, hl32] at this; exact this
        rw [Nat.zero_add, HW.out.cellAt j hj']; exact hj)
      have HN := hid (show (Try.prog.info? 22).map (·.size) = some (nums .u8 (bs.take 32)).length by rw [nums_length, hl32]; exact info32)
      have hcs : (nums .u8 (bs.take 32)).toArray.size = 32 := by rw [List.size_toArray, nums_length, hl32]
      have HN2 := hid (show (Try.prog.info? 22).map (·.size) = some (nums .u8 (bs.take 32)).toArray.size by rw [hcs]; exact info32)
      have HZ := hid (show hzl.size = (nums .u8 (bs.take 32)).toArray.size by rw [hcs]; rfl)
      have HO := hid (show (nums .u8 (bs.take 32)).toArray.all (·.oneCell') = true from all_oneCell_toArray (nums_oneCell _ _))
      have HF0 := hid (show wr.heap[F]? = some (.cells hzl 22 (0, 0)) by
        rw [hf.block F (Array.getElem?_eq_some_iff.1 hW0.out).1 (by simp; have := HG.out; have := HF.out; omega)]; exact hW0.out)
      have B2 := hid (below_setRow HB.out (show w.heap.size ≤ F by have := HF.out; omega) (nums .u8 (bs.take 32)).toArray)
      have h1 := hid (setRow_heap _ F _ (nums .u8 (bs.take 32)).toArray _ _ HF0.out)
      clear how hf hl32 hcs
      go_wp2_with (first | refine wpList_load_mid rfl _ _ rfl G 0 rfl (nums .u8 (bs.take 32)) _ HR.out Try.underlying22 rfl HN.out ?_ | refine wpList_store_row rfl _ _ _ rfl F (nums .u8 (bs.take 32)).toArray rfl rfl _ _ HF0.out HN2.out HZ.out HO.out ?_)
      (try simp only [Exit.inBlock, Exit.then])
      refine bodyPost_ret (results_cellH rfl _ _ F _ (nums .u8 (bs.take 32)).toArray _ _ rfl h1.out Try.underlying22 rfl HN2.out) rfl ?_
      exact ⟨rfl, B2.out⟩
end Go.Proofs.Ytgaidleepjkldaa
