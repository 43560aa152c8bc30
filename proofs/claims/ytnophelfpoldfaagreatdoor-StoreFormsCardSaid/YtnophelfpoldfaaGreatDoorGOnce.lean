/- What a slice of slices of bytes reads as. -/
import Derived.Test.YtnophelfpoldfaaGreatDoorGShaH
import Derived.Test.YtnophelfpoldfaaGreatDoorGShaP
import Derived.Test.YtnophelfpoldfaaGreatDoorShaS
import Derived.Test.YtnophelfpoldfaaGreatDoorGKey
import Derived.Tactics
import Derived.Tactics2
import Derived.Defers
import Derived.Laws.Pointers
import Derived.Laws.LoneSync
import Derived.RegionTactic
import Derived.RegionCalls
import Derived.ChangeAlike
import Derived.Laws.NewBlocks
namespace Go.Proofs.YtnophelfpoldfaaGreatDoor
open Go.RowKit

/-- bytes, and where they lie -/
structure BS where
  a : Option Addr
  c : Nat
  v : List Nat
def BS.cells (l : BS) : List Value := [.slice l.a l.v.length l.c]
def BS.good (w : World) (l : BS) : Prop := Sl .u8 w l.a l.v.length l.c l.v ∧ (∀ d ∈ l.v, d < 256) ∧ l.v.length ≤ 140737488351232
def Parts (w : World) (a : Option Addr) (n cap : Nat) (ls : List BS) : Prop := Rd w 1 a n cap (ls.flatMap BS.cells) ∧ ls.length = n ∧ ∀ l ∈ ls, l.good w
def flat (ls : List BS) : List Nat := ls.flatMap BS.v
theorem BS.good.below {w w' : World} {l : BS} (h : l.good w) (hb : Below w.heap.size w w') : l.good w' := ⟨h.1.below hb, h.2⟩
theorem Parts.below {w w' : World} {a : Option Addr} {n cap : Nat} {ls : List BS} (h : Parts w a n cap ls) (hb : Below w.heap.size w w') : Parts w' a n cap ls :=
  ⟨h.1.below hb, h.2.1, fun l hl => (h.2.2 l hl).below hb⟩
theorem bflat_eq (r : List BS) : r.flatMap BS.cells = r.map (fun l => Value.slice l.a l.v.length l.c) := by
  induction r with
  | nil => rfl
  | cons x r ih => simp only [List.flatMap_cons, List.map_cons, BS.cells, ih]; rfl
theorem bflat_get {ls : List BS} {j : Nat} {l : BS} (h : ls[j]? = some l) : (ls.flatMap BS.cells)[j]? = some (.slice l.a l.v.length l.c) := by
  rw [bflat_eq, List.getElem?_map, h]; rfl
theorem Parts.cells {w : World} {a : Option Addr} {n cap j : Nat} {ls : List BS} {l : BS} (h : Parts w a n cap ls) (hj : ls[j]? = some l) :
    ∃ b off, a = some ⟨b, off, none⟩ ∧ w.cell? ⟨b, off + j, none⟩ = some (.slice l.a l.v.length l.c) ∧ l.good w := by
  obtain ⟨⟨_, _, _, _, b, off, ha, hc⟩, hl, hg⟩ := h
  have hjl : j < ls.length := (List.getElem?_eq_some_iff.1 hj).1
  exact ⟨b, off, ha (by omega), hc _ _ (bflat_get hj), hg l (List.mem_of_getElem? hj)⟩
/-- what can be read lies in no newer block -/
theorem ApH.old {k : IntKind} {w : World} {a : Option Addr} {n cap H : Nat} {xs : List Nat} (h : Sl k w a n cap xs) (hH : w.heap.size ≤ H) : ApH H a n := by
  intro hn b off ha hb
  obtain ⟨b', off', ha', hc⟩ := h.opened
  have := ha' hn
  rw [ha] at this
  simp only [Option.some.injEq, Addr.mk.injEq, and_true] at this
  obtain ⟨rfl, rfl⟩ := this
  have := World.block_lt_of_cell? w _ (hc 0 hn)
  simp at this
  omega
theorem bget_some {α : Type} {ls : List α} {j n : Nat} (hl : ls.length = n) (h : j < n) : ∃ l, ls[j]? = some l := ⟨ls[j]'(by omega), List.getElem?_eq_getElem (by omega)⟩
theorem flat_take_succ {ls : List BS} {j : Nat} {l : BS} (h : ls[j]? = some l) : flat (ls.take (j + 1)) = flat (ls.take j) ++ l.v := by
  unfold flat
  rw [List.take_add_one, h, List.flatMap_append]
  simp
theorem flat_take_le (ls : List BS) (j : Nat) : (flat (ls.take j)).length ≤ (flat ls).length := by
  unfold flat
  conv => rhs; rw [← List.take_append_drop j ls, List.flatMap_append, List.length_append]
  omega
theorem flat_lt {ls : List BS} (h : ∀ l ∈ ls, ∀ d ∈ l.v, d < 256) : ∀ d ∈ flat ls, d < 256 := by
  intro d hd
  obtain ⟨l, hl, hd⟩ := List.mem_flatMap.1 hd
  exact h l hl d hd
end Go.Proofs.YtnophelfpoldfaaGreatDoor

/- The walk of sha.Sum. -/
namespace Go.Proofs.YtnophelfpoldfaaGreatDoor
open Go.RowKit

theorem alloc2 (w : World) (a b : Obj) : ((w.alloc a).alloc b).heap[w.heap.size]? = some a ∧ ((w.alloc a).alloc b).heap[w.heap.size + 1]? = some b ∧ ((w.alloc a).alloc b).heap.size = w.heap.size + 1 + 1 ∧ Below w.heap.size w ((w.alloc a).alloc b) := by
  have e1 : (w.alloc a).heap.size = w.heap.size + 1 := by simp
  have h0 := heap_alloc_new w a
  have h1 := heap_alloc_new (w.alloc a) b
  rw [e1] at h1
  exact ⟨by rw [Below.heap_alloc _ _ _ (by omega)]; exact h0, h1, by simp, ((Below.refl w.heap.size w).alloc (Nat.le_refl _) a).alloc (by omega) b⟩
theorem infoHs : (Tryz.prog.info? 126).map (·.size) = some 74 := by kernel_rfl
theorem hs0_size : hs0.size = 74 := by
  have := congrArg List.length hs0_list
  rw [Array.length_toList] at this
  rw [this]
  simp
  rfl
theorem hs0_one : hs0.all (·.oneCell') = true := by kernel_rfl
theorem z51_size : Tryz.zeroCells126.size = 74 := by kernel_rfl
set_option maxRecDepth 100000 in
set_option maxHeartbeats 4000000 in
theorem sum_walk (a : Option Addr) (n cap : Nat) (ls : List BS) (w : World) (h : Parts w a n cap ls) (hlen : (flat ls).length < 2305843009213693952) (ht : Tabs w) :
    Calls Tryz.prog 58 #[.slice a n cap] w (SumRes (flat ls) w) := by
  have HI := hid h
  have HL := hid h.2.1
  have hnb := Nat.le_trans h.1.2.1 h.1.2.2.1
  unfold maxLen at hnb
  have HT := hid ht
  have A2 := hid (alloc2 w (.cells #[.int .u8 0, .int .u8 0, .int .u8 0, .int .u8 0, .int .u8 0, .int .u8 0, .int .u8 0, .int .u8 0, .int .u8 0, .int .u8 0, .int .u8 0, .int .u8 0, .int .u8 0, .int .u8 0, .int .u8 0, .int .u8 0, .int .u8 0, .int .u8 0, .int .u8 0, .int .u8 0, .int .u8 0, .int .u8 0, .int .u8 0, .int .u8 0, .int .u8 0, .int .u8 0, .int .u8 0, .int .u8 0, .int .u8 0, .int .u8 0, .int .u8 0, .int .u8 0] 62) (.cells Tryz.zeroCells126 126))
  have t0 : w.cell? ⟨1, 0, none⟩ = some (.int .u32 1779033703) := ht.1 0 (by decide)
  have t1 : w.cell? ⟨1, 1, none⟩ = some (.int .u32 3144134277) := ht.1 1 (by decide)
  have t2 : w.cell? ⟨1, 2, none⟩ = some (.int .u32 1013904242) := ht.1 2 (by decide)
  have t3 : w.cell? ⟨1, 3, none⟩ = some (.int .u32 2773480762) := ht.1 3 (by decide)
  have t4 : w.cell? ⟨1, 4, none⟩ = some (.int .u32 1359893119) := ht.1 4 (by decide)
  have t5 : w.cell? ⟨1, 5, none⟩ = some (.int .u32 2600822924) := ht.1 5 (by decide)
  have t6 : w.cell? ⟨1, 6, none⟩ = some (.int .u32 528734635) := ht.1 6 (by decide)
  have t7 : w.cell? ⟨1, 7, none⟩ = some (.int .u32 1541459225) := ht.1 7 (by decide)
  have hg0 : 1 < w.heap.size := World.block_lt_of_cell? w _ t0
  have hg0' : ¬ 1 = w.heap.size := by omega
  clear h ht
  go_enter Tryz.func58, Tryz.ntmps58
  have hi51 : (Tryz.prog.info? 126).map (·.size) = some hs0.size := by rw [hs0_size]; exact infoHs
  have hz51 : Tryz.zeroCells126.size = hs0.size := by rw [hs0_size]; exact z51_size
  have hW2 := hid (setRow_heap ((w.alloc (.cells #[.int .u8 0, .int .u8 0, .int .u8 0, .int .u8 0, .int .u8 0, .int .u8 0, .int .u8 0, .int .u8 0, .int .u8 0, .int .u8 0, .int .u8 0, .int .u8 0, .int .u8 0, .int .u8 0, .int .u8 0, .int .u8 0, .int .u8 0, .int .u8 0, .int .u8 0, .int .u8 0, .int .u8 0, .int .u8 0, .int .u8 0, .int .u8 0, .int .u8 0, .int .u8 0, .int .u8 0, .int .u8 0, .int .u8 0, .int .u8 0, .int .u8 0, .int .u8 0] 62)).alloc (.cells Tryz.zeroCells126 126)) (w.heap.size + 1) _ hs0 _ _ A2.out.2.1)
  have hW0 := hid (show (((w.alloc (.cells #[.int .u8 0, .int .u8 0, .int .u8 0, .int .u8 0, .int .u8 0, .int .u8 0, .int .u8 0, .int .u8 0, .int .u8 0, .int .u8 0, .int .u8 0, .int .u8 0, .int .u8 0, .int .u8 0, .int .u8 0, .int .u8 0, .int .u8 0, .int .u8 0, .int .u8 0, .int .u8 0, .int .u8 0, .int .u8 0, .int .u8 0, .int .u8 0, .int .u8 0, .int .u8 0, .int .u8 0, .int .u8 0, .int .u8 0, .int .u8 0, .int .u8 0, .int .u8 0] 62)).alloc (.cells Tryz.zeroCells126 126)).setRow (w.heap.size + 1) hs0).heap[w.heap.size]? = some (.cells #[.int .u8 0, .int .u8 0, .int .u8 0, .int .u8 0, .int .u8 0, .int .u8 0, .int .u8 0, .int .u8 0, .int .u8 0, .int .u8 0, .int .u8 0, .int .u8 0, .int .u8 0, .int .u8 0, .int .u8 0, .int .u8 0, .int .u8 0, .int .u8 0, .int .u8 0, .int .u8 0, .int .u8 0, .int .u8 0, .int .u8 0, .int .u8 0, .int .u8 0, .int .u8 0, .int .u8 0, .int .u8 0, .int .u8 0, .int .u8 0, .int .u8 0, .int .u8 0] 62 (0, 0)) by
    rw [setRow_other _ _ _ _ (by omega)]; exact A2.out.1)
  have hWB := hid (below_setRow A2.out.2.2.2 (show w.heap.size ≤ w.heap.size + 1 by omega) hs0)
  have hWs := hid (show w.heap.size + 1 < (((w.alloc (.cells #[.int .u8 0, .int .u8 0, .int .u8 0, .int .u8 0, .int .u8 0, .int .u8 0, .int .u8 0, .int .u8 0, .int .u8 0, .int .u8 0, .int .u8 0, .int .u8 0, .int .u8 0, .int .u8 0, .int .u8 0, .int .u8 0, .int .u8 0, .int .u8 0, .int .u8 0, .int .u8 0, .int .u8 0, .int .u8 0, .int .u8 0, .int .u8 0, .int .u8 0, .int .u8 0, .int .u8 0, .int .u8 0, .int .u8 0, .int .u8 0, .int .u8 0, .int .u8 0] 62)).alloc (.cells Tryz.zeroCells126 126)).setRow (w.heap.size + 1) hs0).heap.size from (Array.getElem?_eq_some_iff.1 hW2.out).1)
  go_wp2_with (refine wpList_store_row rfl _ _ _ rfl (w.heap.size + 1) hs0 rfl rfl _ _ A2.out.2.1 hi51 hz51 hs0_one ?_)
  clear A2 t0 t1 t2 t3 t4 t5 t6 t7 hi51 hz51
  generalize ((w.alloc (.cells #[.int .u8 0, .int .u8 0, .int .u8 0, .int .u8 0, .int .u8 0, .int .u8 0, .int .u8 0, .int .u8 0, .int .u8 0, .int .u8 0, .int .u8 0, .int .u8 0, .int .u8 0, .int .u8 0, .int .u8 0, .int .u8 0, .int .u8 0, .int .u8 0, .int .u8 0, .int .u8 0, .int .u8 0, .int .u8 0, .int .u8 0, .int .u8 0, .int .u8 0, .int .u8 0, .int .u8 0, .int .u8 0, .int .u8 0, .int .u8 0, .int .u8 0, .int .u8 0] 62)).alloc (.cells Tryz.zeroCells126 126)).setRow (w.heap.size + 1) hs0 = W2 at *
  obtain ⟨G1, hG1⟩ : ∃ G1, G1 = w.heap.size + 1 := ⟨_, rfl⟩
  rw [← hG1] at hW2 hWs ⊢
  have l01 : w.heap.size < G1 := by omega
  have n0 := hid (show G1 ≠ 1 by omega)
  have n1 := hid (show G1 ≠ 2 by have := World.block_lt_of_cell? w _ (HT.out.2 0 (by decide)); simp at this; omega)
  clear hG1 hg0 hg0'
  go_wp2
  go_loopw [10] (fun x0 wr => ∃ i : Nat, i ≤ n ∧ x0 = .int .i64 i ∧ Far G1 W2 wr ∧ ∃ cur S R k, wr.heap[G1]? = some (.cells cur 126 (0, 0)) ∧ HsAt cur 0 S R k (flat (ls.take i)).length ∧ Took (flat (ls.take i)) S R k) (fun x0 _ => n - (intOf x0).toNat)
  case atStart => exact ⟨0, by omega, rfl, Far.refl _ _, hs0, H0, _, 0, hW2.out, hs0_at, Took.start (by rw [List.length_replicate]) rep_lt⟩
  case round =>
    obtain ⟨i, hi, rfl, hf, cur, S, R, k, hh, hA, hTk⟩ := hrel
    have HF := hid hf
    have HH := hid hh
    have HA := hid hA
    have HTK := hid hTk
    have BEL := hid (hWB.out.trans (hf.below (show w.heap.size ≤ G1 by omega) hWB.out.size))
    have HTr := hid ((HT.out.below hWB.out).far hf n0.out n1.out)
    clear hf hh hA hTk
    by_cases hlt : i < n
    · obtain ⟨l, hl⟩ := bget_some HL.out hlt
      obtain ⟨b, off, rfl, c1, gd⟩ := (HI.out.below BEL.out).cells hl
      have gd0 := HI.out.2.2 l (List.mem_of_getElem? hl)
      have HAP := hid (ApH.old gd0.1 (show w.heap.size ≤ G1 by omega))
      have HGD := hid gd
      have HE := hid (flat_take_succ hl)
      have hle := flat_take_le ls (i + 1)
      rw [HE.out, List.length_append] at hle
      clear gd gd0 hl
      go_wp2_with fail
      refine (write_walk G1 0 _ cur S R k (flat (ls.take i)) l.a l.v.length l.c l.v _ HH.out HA.out HTK.out HGD.out.1 HAP.out HGD.out.2.1 (by omega) HTr.out n0.out n1.out).mono ?_
      rintro e wA ⟨rfl, fA, cur', S', R', k', hh', _, hA', hTk'⟩
      rw [← HE.out] at hA' hTk'
      have FA := hid (HF.out.trans fA)
      have H1 := hid hh'
      have H2 := hid hA'
      have H3 := hid hTk'
      clear hh' hA' hTk' fA c1 hle
      go_wp2
      go_roundw
      case rel => exact ⟨i + 1, by omega, by go_num, FA.out, cur', S', R', k', H1.out, H2.out, H3.out⟩
      case measure => simp [intOf]; omega
    · have hge : n ≤ i := by omega
      have et : ls.take i = ls := List.take_of_length_le (by rw [HL.out]; exact hge)
      rw [et] at HA HTK
      have h0 := hid (show wr.heap[w.heap.size]? = some (.cells #[.int .u8 0, .int .u8 0, .int .u8 0, .int .u8 0, .int .u8 0, .int .u8 0, .int .u8 0, .int .u8 0, .int .u8 0, .int .u8 0, .int .u8 0, .int .u8 0, .int .u8 0, .int .u8 0, .int .u8 0, .int .u8 0, .int .u8 0, .int .u8 0, .int .u8 0, .int .u8 0, .int .u8 0, .int .u8 0, .int .u8 0, .int .u8 0, .int .u8 0, .int .u8 0, .int .u8 0, .int .u8 0, .int .u8 0, .int .u8 0, .int .u8 0, .int .u8 0] 62 (0, 0)) by rw [HF.out.block _ (by have := hWs.out; omega) (by simp; omega)]; exact hW0.out)
      clear et
      go_wp2_with fail
      refine (hsum_walk G1 0 _ cur S R k (flat ls) _ HH.out HA.out HTK.out hlen HTr.out).mono ?_
      rintro e wA ⟨rfl, bA⟩
      have h0' := hid (show wA.heap[w.heap.size]? = some (.cells #[.int .u8 0, .int .u8 0, .int .u8 0, .int .u8 0, .int .u8 0, .int .u8 0, .int .u8 0, .int .u8 0, .int .u8 0, .int .u8 0, .int .u8 0, .int .u8 0, .int .u8 0, .int .u8 0, .int .u8 0, .int .u8 0, .int .u8 0, .int .u8 0, .int .u8 0, .int .u8 0, .int .u8 0, .int .u8 0, .int .u8 0, .int .u8 0, .int .u8 0, .int .u8 0, .int .u8 0, .int .u8 0, .int .u8 0, .int .u8 0, .int .u8 0, .int .u8 0] 62 (0, 0)) by rw [bA.block _ (Array.getElem?_eq_some_iff.1 h0.out).1]; exact h0.out)
      have B2 := hid (bstep BEL.out bA)
      have hiH : (Tryz.prog.info? 62).map (·.size) = some (nums .u8 (sha (flat ls))).toArray.size := by rw [List.size_toArray, nums_length, sha_len]; exact infoH
      have h32 : (#[Value.int .u8 0, Value.int .u8 0, Value.int .u8 0, Value.int .u8 0, Value.int .u8 0, Value.int .u8 0, Value.int .u8 0, Value.int .u8 0, Value.int .u8 0, Value.int .u8 0, Value.int .u8 0, Value.int .u8 0, Value.int .u8 0, Value.int .u8 0, Value.int .u8 0, Value.int .u8 0, Value.int .u8 0, Value.int .u8 0, Value.int .u8 0, Value.int .u8 0, Value.int .u8 0, Value.int .u8 0, Value.int .u8 0, Value.int .u8 0, Value.int .u8 0, Value.int .u8 0, Value.int .u8 0, Value.int .u8 0, Value.int .u8 0, Value.int .u8 0, Value.int .u8 0, Value.int .u8 0] : Array Value).size = (nums .u8 (sha (flat ls))).toArray.size := by rw [show (nums .u8 (sha (flat ls))).toArray.size = 32 by rw [List.size_toArray, nums_length, sha_len]]; rfl
      have h1c : (nums .u8 (sha (flat ls))).toArray.all (·.oneCell') = true := by simp [nums, Value.oneCell']
      clear bA h0
      unfold hv
      generalize hcs : (nums .u8 (sha (flat ls))).toArray = cs at *
      have HCS := hid hcs
      clear hcs
      go_wp2_with (refine wpList_store_row rfl _ _ _ rfl w.heap.size cs rfl rfl _ _ h0'.out hiH h32 h1c ?_)
      (try simp only [Exit.inBlock, Exit.then])
      refine bodyPost_ret (results_cell_row rfl _ _ w.heap.size _ cs _ _ rfl (setRow_heap wA w.heap.size _ cs _ _ h0'.out) Tryz.underlying62 rfl hiH) rfl ?_
      exact ⟨by rw [hv, HCS.out], below_setRow B2.out (Nat.le_refl _) _⟩
end Go.Proofs.YtnophelfpoldfaaGreatDoor

/- sha.Sum of one part. -/
namespace Go.Proofs.YtnophelfpoldfaaGreatDoor
open Go.RowKit

theorem parts1 {w : World} {G : Nat} {a : Option Addr} {n c : Nat} {xs : List Nat} (hc : w.cell? ⟨G, 0, none⟩ = some (.slice a n c)) (h : Sl .u8 w a n c xs) (hx : ∀ d ∈ xs, d < 256) (hn : n ≤ 140737488351232) : Parts w (some ⟨G, 0, none⟩) 1 1 [⟨a, c, xs⟩] := by
  have hl := h.len
  subst hl
  refine ⟨⟨rfl, Nat.le_refl _, by decide, (fun e => by cases e), G, 0, fun _ => rfl, fun j u hu => ?_⟩, rfl, fun l hl => ?_⟩
  · match j, hu with
    | 0, hu => simp [BS.cells] at hu; subst hu; exact hc
    | j + 1, hu => simp [BS.cells] at hu
  · simp only [List.mem_singleton] at hl
    subst hl
    exact ⟨h, hx, hn⟩
/-- the digest of one part -/
theorem sum1_walk (G : Nat) (a : Option Addr) (n c : Nat) (xs : List Nat) (w : World) (hc : w.cell? ⟨G, 0, none⟩ = some (.slice a n c)) (h : Sl .u8 w a n c xs) (hx : ∀ d ∈ xs, d < 256) (hn : n ≤ 140737488351232) (ht : Tabs w) :
    Calls Tryz.prog 58 #[.slice (some ⟨G, 0, none⟩) 1 1] w (SumRes xs w) := by
  have P := parts1 hc h hx hn
  have hl := h.len
  have := sum_walk (some ⟨G, 0, none⟩) 1 1 _ w P (by simp [flat]; omega) ht
  simpa [flat] using this
theorem cellNew1 (Y : World) (v : Value) (T : TypeId) : (Y.alloc (.cells #[v] T)).cell? ⟨Y.heap.size, 0, none⟩ = some v := by rw [cell_of_row _ _ 0 _ _ (0, 0) (heap_alloc_new Y _)]; rfl
end Go.Proofs.YtnophelfpoldfaaGreatDoor

/- sync.Once, sync.Mutex, sync/atomic in one goroutine: the parts of a Once's slow road; a counter. -/
namespace Go.Proofs.YtnophelfpoldfaaGreatDoor
open Go.RowKit

theorem disable (w : World) : (callFunc 105 #[]).run Tryz.prog w = .ok (.value (.tuple #[])) w := run_call_mark0 Tryz.func105 (by kernel_rfl) (by kernel_rfl) (by kernel_rfl) .disable (by kernel_rfl) w
theorem enable (w : World) : (callFunc 107 #[]).run Tryz.prog w = .ok (.value (.tuple #[])) w := run_call_mark0 Tryz.func107 (by kernel_rfl) (by kernel_rfl) (by kernel_rfl) .enable (by kernel_rfl) w
theorem acquire (a : Addr) (w : World) : (callFunc 108 #[.pointer (some a)]).run Tryz.prog w = .ok (.value (.tuple #[])) w := run_call_marked Tryz.func108 (by kernel_rfl) (by kernel_rfl) (by kernel_rfl) .acquire (by kernel_rfl) a w
theorem releaseMerge (a : Addr) (w : World) : (callFunc 110 #[.pointer (some a)]).run Tryz.prog w = .ok (.value (.tuple #[])) w := run_call_marked Tryz.func110 (by kernel_rfl) (by kernel_rfl) (by kernel_rfl) .releaseMerge (by kernel_rfl) a w
set_option maxRecDepth 100000 in
set_option maxHeartbeats 1600000 in
theorem store_deferred (a : Addr) (x : Value) (u : FrameMode) (w : World) (hc : w.cell? a = some x) (hz : w.frozen? a = false) :
    CallsD Tryz.prog 85 #[.pointer (some a), .bool true] u w fun e u' w' => u' = u ∧ (e = .returned (.tuple #[]) ∧ w' = w.drew.setCell a (.int .u32 1)) := by
  have hc' : w.drew.cell? a = some x := by go_simp
  have hz' : w.drew.frozen? a = false := by go_simp
  have hst := run_call_store (P := Tryz.prog) Tryz.func92 (by kernel_rfl) (by kernel_rfl) (by kernel_rfl) (by kernel_rfl) (k := .u32) (y := 1) hc' hz'
  go_enter_d Tryz.func85, Tryz.ntmps85
  go_wp2
  go_region_calls
  all_goals (go_end0; exact ⟨rfl, rfl⟩)
set_option maxRecDepth 100000 in
set_option maxHeartbeats 1600000 in
theorem unlock_deferred (a : Addr) (u : FrameMode) (w : World) (hc : w.cell? a = some (.int .i32 1)) (hz : w.frozen? a = false) :
    CallsD Tryz.prog 84 #[.pointer (some a)] u w fun e u' w' => u' = u ∧ (e = .returned (.tuple #[]) ∧ w' = w.setCell a (.int .i32 0)) := by
  have hd := disable
  have he := enable
  have hr := releaseMerge
  have hadd := run_call_add (P := Tryz.prog) Tryz.func111 (by kernel_rfl) (by kernel_rfl) (by kernel_rfl) .i32 (by kernel_rfl) (y := -1) (s := 0) hc hz (by simp [go_sem]; rfl)
  have hcv := run_convert_to_unsafe (P := Tryz.prog) (src := 183) (dst := 187) Tryz.underlying183 Tryz.underlying187 (by kernel_rfl) hc
  go_enter_d Tryz.func84, Tryz.ntmps84
  go_wp2
  go_end0
  go_wp2
  go_end0
  exact ⟨rfl, rfl⟩
set_option maxRecDepth 100000 in
set_option maxHeartbeats 1600000 in
theorem lock_free (a : Addr) (w : World) (hc : w.cell? a = some (.int .i32 0)) (hz : w.frozen? a = false) :
    Calls Tryz.prog 83 #[.pointer (some a)] w fun e w' => e = .returned (.tuple #[]) ∧ w' = w.setCell a (.int .i32 1) := by
  have hd := disable
  have he := enable
  have ha := acquire
  have hcas := run_call_cas_hit (P := Tryz.prog) Tryz.func106 (by kernel_rfl) (by kernel_rfl) (by kernel_rfl) .i32 (by kernel_rfl) (y := 1) hc hz
  have hc' : (w.setCell a (.int .i32 1)).cell? a = some (.int .i32 1) := World.cell?_setCell_same w a _ hc
  have hcv := run_convert_to_unsafe (P := Tryz.prog) (src := 183) (dst := 187) Tryz.underlying183 Tryz.underlying187 (by kernel_rfl) hc'
  go_enter Tryz.func83, Tryz.ntmps83
  go_wp2
  first | go_end0 | (simp only [Exit.inBlock, Exit.then]; refine bodyPost_ret (results_none rfl _ _ _) rfl ?_) | refine bodyPost_ret (results_none rfl _ _ _) rfl ?_
  go_wp2
  go_end0
  exact ⟨rfl, rfl⟩
theorem addI_walk (a : Addr) (x y s : Int) (w : World) (hc : w.cell? a = some (.int .i64 x)) (hz : w.frozen? a = false) (hs : IntKind.i64.wrap (x + y) = s) :
    Calls Tryz.prog 61 #[.pointer (some a), .int .i64 y] w fun e w' => e = .returned (.int .i64 s) ∧ w' = w.setCell a (.int .i64 s) := by
  have hadd := run_call_add (P := Tryz.prog) Tryz.func76 (by kernel_rfl) (by kernel_rfl) (by kernel_rfl) .i64 (by kernel_rfl) (y := y) (s := s) hc hz (by simp [go_sem]; exact hs)
  go_enter Tryz.func61, Tryz.ntmps61
  go_wp2
  go_ret
  exact ⟨rfl, rfl⟩
end Go.Proofs.YtnophelfpoldfaaGreatDoor
