/- The law's same: two lists of byte slices that read alike. -/
import Derived.Test.YtnophelfpoldfaaGreatDoorGSts
import Derived.Test.YtnophelfpoldfaaGreatDoorGOnce
import Derived.Lib.SlBytesConst
import Derived.Shelf.SlIter.Nil
import Derived.Shelf.SortM.Plain
import Derived.Shelf.SortM.SortNone
import Derived.Ground.GgzProg
import Derived.Ground.SlgmProg
import Derived.Shelf.SlicesE.DeleteFunc
import Derived.Ground.SlgfProg
import Derived.Test.YtnophelfpoldfaaGreatDoorGVar
namespace Go.Proofs.YtnophelfpoldfaaGreatDoor
open Go.RowKit

/-- values that are slices of bytes -/
def Els (w : World) (vs : List Value) (xs : List (List Nat)) : Prop := vs.length = xs.length ∧ ∀ (i : Nat) (v : Value) (r : List Nat), vs[i]? = some v → xs[i]? = some r → ∃ a n c, v = .slice a n c ∧ Sl .u8 w a n c r ∧ ∀ d ∈ r, d < 256
theorem JRs.els {w : World} {vs : List Value} {xs : List (List Nat)} (h : JRs w vs xs) : Els w vs xs :=
  ⟨h.1, fun i v r hv hr => by obtain ⟨a, n, c, e, hs, hb, _⟩ := h.2 i v r hv hr; exact ⟨a, n, c, e, hs, hb⟩⟩
theorem Els.below {w w' : World} {vs : List Value} {xs : List (List Nat)} (h : Els w vs xs) (b : Below w.heap.size w w') : Els w' vs xs :=
  ⟨h.1, fun i v r hv hr => by obtain ⟨a, n, c, e, hs, hb⟩ := h.2 i v r hv hr; exact ⟨a, n, c, e, hs.below b, hb⟩⟩
theorem Els.nil (w : World) : Els w [] [] := ⟨rfl, fun i v r h => by simp at h⟩
theorem Els.snoc {w : World} {vs : List Value} {rs : List (List Nat)} (h : Els w vs rs) {a : Option Addr} {n c : Nat} {r : List Nat} (hs : Sl .u8 w a n c r) (hb : ∀ d ∈ r, d < 256) : Els w (vs ++ [.slice a n c]) (rs ++ [r]) := by
  refine ⟨by simp [h.1], fun i u s hu hs' => ?_⟩
  by_cases hi : i < vs.length
  · rw [List.getElem?_append_left hi] at hu
    rw [List.getElem?_append_left (by have := h.1; omega)] at hs'
    exact h.2 i u s hu hs'
  · rw [List.getElem?_append_right (by omega)] at hu
    rw [List.getElem?_append_right (by have := h.1; omega), ← h.1] at hs'
    have : i - vs.length = 0 := by have := (List.getElem?_eq_some_iff.1 hu).1; simp at this; omega
    rw [this] at hu hs'
    simp at hu hs'
    subst hu hs'
    exact ⟨a, n, c, rfl, hs, hb⟩
end Go.Proofs.YtnophelfpoldfaaGreatDoor

/- The chapter's head: the document's example. -/
namespace Go.Proofs.YtnophelfpoldfaaGreatDoor
open Go.RowKit

theorem z64_get {n i : Nat} (h : i < n) : (List.replicate n z64)[i]? = some blank := by rw [List.getElem?_replicate, if_pos h]; rfl
theorem fresh_no (n half : Nat) (hh : half ≤ 1) (b h : List Nat) (t : Nat) (hr : readC (List.replicate n z64) half 0 z32 = some (b, h, t)) : b.length < 8 := by
  have o := readC_out hr
  rw [List.length_replicate] at o
  have hs2 : half * (n / 2) ≤ n / 2 := by have := Nat.mul_le_mul_right (n / 2) hh; omega
  have := readC_blank0 (C := List.replicate n z64) (half := half) (at' := 0) (by rw [List.length_replicate]; exact z64_get (by omega)) hr
  rw [this.1]; decide
theorem hb_of {w : World} {db Bd : Nat} {sd : Value} {C : List (List Nat)} {a : Option Addr} {n c : Nat} {b : List Nat} (h : ByA w (.slice a n c) b) (d : DiskAt w db Bd sd (.slice none 0 0) C []) (w' : World) (k : Keep (fun i => i = db ∨ sd.ownBlock = some i) w w') : Sl .u8 w' a n c b := by
  obtain ⟨a', n', c', e, hs, _⟩ := h.keep k (fun i _ e => by
    rcases e with rfl | e
    · exact d.noBy
    · obtain ⟨vs', o', _⟩ := d.sure
      exact own_noBy o' (by decide) e)
  simp only [Value.slice.injEq] at e
  obtain ⟨rfl, rfl, rfl⟩ := e
  exact hs
/-- the example's disk -/
def hdC0 : List (List Nat) := List.replicate 20 z64
def hdH : List Nat := recH z32 (be8 1)
def hdC1 : List (List Nat) := layB hdC0 0 (recB z32 (be8 1)) 1
def hdC2 : List (List Nat) := layB hdC1 (0 * (hdC1.length / 2) + 1) (recB hdH [97]) 1
theorem hdC1_len : hdC1.length = 20 := by unfold hdC1; rw [layB_len]; unfold hdC0; rw [List.length_replicate]
theorem hdC2_len : hdC2.length = 20 := by unfold hdC2; rw [layB_len, hdC1_len]
theorem hdC2_blank {i : Nat} (h1 : 2 ≤ i) (h2 : i < 20) : hdC2[i]? = some blank := by
  unfold hdC2
  rw [layB_out (by rw [hdC1_len]; omega) (by omega)]
  unfold hdC1
  rw [layB_out (by unfold hdC0; rw [List.length_replicate]; omega) (by omega)]
  exact z64_get h2
theorem hd_read0 : readC hdC2 0 0 z32 = some (be8 1, hdH, 1) := by
  have h : readC hdC1 0 0 z32 = some (be8 1, hdH, 0 + 1) := by
    have := readC_lay (C := hdC0) (half := 0) (at' := 0) (ah := z32) (b := be8 1) (K := 1) (by rw [be8_len]) (by decide) (by unfold hdC0; rw [List.length_replicate]; decide) (by rw [be8_len]; decide)
    rw [show 0 * (hdC0.length / 2) + 0 = 0 by omega] at this
    exact this
  refine readC_keep h (by decide) (by rw [hdC2_len, hdC1_len]) (fun i h1 h2 => ?_)
  unfold hdC2
  exact layB_out (by rw [hdC1_len]; omega) (by omega)
theorem hd_chain : ChainC hdC2 0 1 hdH [[97]] 2 (recH hdH [97]) := by
  refine ⟨_, _, readC_lay (C := hdC1) (half := 0) (at' := 1) (ah := hdH) (b := [97]) (K := 1) rfl (by decide) (by rw [hdC1_len]; decide) (by decide), ?_, rfl, rfl⟩
  exact readC_blank (by rw [hdC2_len]; exact hdC2_blank (by decide) (by decide)) ne_head
theorem hd_no (b h : List Nat) (t : Nat) (hr : readC hdC2 1 0 z32 = some (b, h, t)) : b.length < 8 := by
  have := readC_blank0 (by rw [hdC2_len]; exact hdC2_blank (by decide) (by decide)) hr
  rw [this.1]; decide
end Go.Proofs.YtnophelfpoldfaaGreatDoor

/- slices.Sorted(maps.Keys(m)) and slices.DeleteFunc at strings: laid. -/
namespace Go.Proofs.YtnophelfpoldfaaGreatDoor
open Go.RowKit Go.Maps Go.Sort Go.Shelf Go.Lib

shelf_lay_g SlLaysZ.n7 Ggz 7 at Tryz 70 as Tryz.keysS
shelf_lay_g SlLaysZ.n6 Ggz 6 at Tryz 69 as Tryz.sortedS
shelf_lay_g SlLaysM.n6 Slgm 6 at Tryz 79 as Tryz.sortS
shelf_lay_g SlLaysH.n10 Slgf 10 at Tryz 49 as Tryz.delS

theorem sortsS (m : Nat) : AnyZ.SortsIn Tryz.prog Tryz.sortedS_ren Fence.wide m :=
  ⟨fun blk off cap ss W hH hblk hsz => callsIn_wide.2 (AnyM.slices_Sort_string Tryz.sortS blk off cap ss W hH hblk hsz),
   fun p cap W => callsIn_wide.2 (AnyM.slices_Sort_string_none Tryz.sortS p cap W)⟩
set_option maxHeartbeats 1000000 in
/-- the keys of a map, rising -/
theorem rising_walk {b n : Nat} {M : List Nat → Option Value} (w : World) (h : MapIs ES w b M n) (hn : n ≤ 4294967296) :
    Calls Tryz.prog 50 #[.map (some b)] w fun e w' => ∃ (v : Value) (ss : List (List UInt8)), e = .returned v ∧ ((ss.map n8k).Nodup ∧ (∀ k ∈ ss.map n8k, ES.ok k) ∧ ∀ k, ES.ok k → (k ∈ ss.map n8k ↔ (M k).isSome = true)) ∧ ss.length = n ∧
      w'.ownsRow w.heap.size 9 1 v ss.length ((ss.mergeSort leB).map encStr) ∧ (v = .slice none 0 0 ↔ ss = []) ∧ Below w.heap.size w w' := by
  obtain ⟨D0, hown, hsize, hkeys⟩ := h.strs
  have hmax : Maps.size D0 ≤ maxLen := by unfold maxLen; omega
  have hbytes : Maps.size D0 * 16 ≤ 140737488355328 := by omega
  have hlen : ∀ ss : List (List UInt8), ss.Perm (strKeys D0) → ss.length = n := fun ss hp => by
    rw [hp.length_eq]
    obtain ⟨es, rfl, _⟩ := hown.keysOf
    rw [← hsize, Maps.size_eq]
    simp [strKeys]
  refine (callsIn_wide (n := 6)).1 ?_
  have hbl := hown.lt
  have hseq : SeqGives Fence.wide 2 Tryz.prog 80 #[.pointer (some ⟨w.heap.size, 0, none⟩)] encStr (fun ss => ss.Perm (strKeys D0)) (Maps.size D0) (w.alloc (.cells #[.map (some b)] 78)) :=
    AnyZ.keys_gives (ρ := Tryz.keysS_ren) { Tryz.keysS with } Fence.wide _ trivial rfl (by omega) w.heap.size b n D0 _ (by simp) (by simp) (by
      obtain ⟨es, clock, hb, Ft, hs, hD⟩ := hown
      exact ⟨es, clock, (Below.heap_alloc _ _ b hbl).trans hb, Ft, hs, hD⟩)
  have cK : ∀ mb W, CallsIn Fence.wide 5 Tryz.prog 70 #[.map mb] W fun e w' => e = .returned (.func (.func 80) #[] #[.pointer (some ⟨W.heap.size, 0, none⟩)]) ∧ w' = W.alloc (.cells #[.map mb] 78) := fun mb W => AnyZ.keys_in Tryz.keysS Fence.wide 5 trivial rfl mb W
  have cS := AnyZ.sorted_in Tryz.sortedS Fence.wide 5 trivial trivial trivial trivial rfl (by omega) (sortsS _) (enters_of Tryz.func79 (by kernel_rfl) rfl) 80 #[.pointer (some ⟨w.heap.size, 0, none⟩)] trivial (enters_of Tryz.func80 (by kernel_rfl) rfl) _ _ hmax hbytes _ hseq
  change CallsIn _ _ Tryz.prog 69 _ _ _ at cS
  have hfK : Fence.wide.fn 70 := trivial
  have hfS : Fence.wide.fn 69 := trivial
  clear hseq hown hmax hbytes hsize h
  refine callsIn_of_wp Tryz.func50 rfl trivial ?_ rfl
  simp only [Tryz.ntmps50, List.size_toArray, List.length_cons, List.length_nil, Nat.reduceAdd, Nat.reduceSub, Array.replicate_succ, Array.replicate_zero, List.push_toArray, List.append_toArray, List.nil_append, List.cons_append]
  gi_wp2_with (first
    | (gi_at_call 70; refine (cK _ _).mono ?_; rintro e w' ⟨rfl, rfl⟩)
    | (gi_at_call 69; refine cS.mono ?_; rintro e w' ⟨v, ss, rfl, hS, hrow, hnil, hb⟩))
  go_ret
  exact ⟨v, ss, rfl, hkeys ss hS, hlen ss hS, ownsRow_base_a hrow (by simp), hnil, ((Below.refl _ w).alloc (Nat.le_refl _) _).trans (hb.mono (by simp))⟩
end Go.Proofs.YtnophelfpoldfaaGreatDoor
