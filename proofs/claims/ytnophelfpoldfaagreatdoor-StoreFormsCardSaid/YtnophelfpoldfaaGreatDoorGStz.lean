/- The store's keys: all that begin so, rising. -/
import Derived.Test.YtnophelfpoldfaaGreatDoorGJhd
import Derived.Test.YtnophelfpoldfaaGreatDoorGCat
import Derived.Test.YtnophelfpoldfaaGreatDoorGSts
import Derived.Test.YtnophelfpoldfaaGreatDoorDsn
import Derived.Test.YtnophelfpoldfaaGreatDoorGDsy
namespace Go.Proofs.YtnophelfpoldfaaGreatDoor
open Go.RowKit Go.Maps Go.Sort Go.Shelf Go.Lib

theorem pre8 (s p : ByteArray) : ((s.extract 0 p.size).toList == p.toList) = p.data.toList.isPrefixOf s.data.toList := by
  rw [ByteArray.toList_eq, ByteArray.toList_eq, Bool.eq_iff_iff, beq_iff_eq, List.isPrefixOf_iff_prefix, ByteArray.data_extract, Array.toList_extract, List.extract_eq_take_drop, List.drop_zero, Nat.sub_zero]
  constructor
  · intro e
    rw [← e]
    exact List.take_prefix _ _
  · intro e
    exact (List.prefix_iff_eq_take.1 e).symm ▸ rfl
set_option maxRecDepth 100000 in
theorem lite_walk (s p : ByteArray) (w : World) : Calls Tryz.prog 71 #[.string s, .string p] w fun e w' => e = .returned (.bool (p.data.toList.isPrefixOf s.data.toList)) ∧ w' = w := by
  by_cases h : p.size ≤ s.size
  · have e := hid (pre8 s p)
    have t1 : decide ((p.size : Int) ≤ (s.size : Int)) = true := decide_eq_true (by omega)
    have t2 : decide (p.size ≤ s.size) = true := decide_eq_true h
    go_enter Tryz.func71, Tryz.ntmps71
    go_wp2
    go_ret
    exact ⟨congrArg (fun b => Ending.returned (.bool b)) e.out, rfl⟩
  · have t1 : decide ((p.size : Int) ≤ (s.size : Int)) = false := decide_eq_false (by omega)
    have t2 : decide (p.size ≤ s.size) = false := decide_eq_false h
    have e : p.data.toList.isPrefixOf s.data.toList = false := by
      rw [Bool.eq_false_iff]
      intro hc
      have := (List.isPrefixOf_iff_prefix.1 hc).length_le
      simp only [Array.length_toList] at this
      exact h this
    rw [e]
    go_enter Tryz.func71, Tryz.ntmps71
    go_wp2
    go_ret
    exact ⟨rfl, rfl⟩
theorem pre_walk (s p : ByteArray) (w : World) : Calls Tryz.prog 52 #[.string s, .string p] w fun e w' => e = .returned (.bool (p.data.toList.isPrefixOf s.data.toList)) ∧ w' = w := by
  have LW := hid (lite_walk s p w)
  generalize p.data.toList.isPrefixOf s.data.toList = b at LW ⊢
  go_enter Tryz.func52, Tryz.ntmps52
  go_wp2_with (fail)
  refine LW.out.mono ?_
  rintro e w1 ⟨rfl, rfl⟩
  go_wp2_with (fail)
  go_ret
  exact ⟨rfl, rfl⟩
theorem clo_walk (first : ByteArray) (x : List UInt8) (B : Nat) (W : World) (hc : W.cell? ⟨B, 0, none⟩ = some (.string first)) : FnGives Tryz.prog 51 #[.pointer (some ⟨B, 0, none⟩)] #[encStr x] (.bool (!first.data.toList.isPrefixOf x)) W := by
  show Calls Tryz.prog 51 #[encStr x, .pointer (some ⟨B, 0, none⟩)] W _
  have LW := hid (show Calls Tryz.prog 52 #[encStr x, .string first] W fun e w' => e = .returned (.bool (first.data.toList.isPrefixOf x)) ∧ w' = W from pre_walk ⟨x.toArray⟩ first W)
  generalize first.data.toList.isPrefixOf x = b at LW ⊢
  go_enter Tryz.func51, Tryz.ntmps51
  go_wp2_with (fail)
  refine LW.out.mono ?_
  rintro e w1 ⟨rfl, rfl⟩
  go_wp2_with (fail)
  go_ret
  exact ⟨rfl, 0, rfl⟩
theorem pre_at (first : ByteArray) (B : Nat) (w : World) (hc : w.cell? ⟨B, 0, none⟩ = some (.string first)) : PredAt Tryz.prog 51 #[.pointer (some ⟨B, 0, none⟩)] encStr (fun x => !first.data.toList.isPrefixOf x) w :=
  fun W x hb => clo_walk first x B W ((hb.cell (p := ⟨B, 0, none⟩) (World.block_lt_of_cell? w _ hc)).trans hc)
theorem pre_over (first : ByteArray) (B blk off size : Nat) (w : World) (hne : B ≠ blk) (hc : w.cell? ⟨B, 0, none⟩ = some (.string first)) : PredOver Tryz.prog 51 #[.pointer (some ⟨B, 0, none⟩)] encStr (fun x => !first.data.toList.isPrefixOf x) blk off size w :=
  fun n os dk x _ => clo_walk first x B _ (by
    have hB := World.block_lt_of_cell? w _ hc
    unfold sortWorld
    rw [cell?_grow _ _ _ (by show B < (putRow _ _ _ _ _).heap.size; rw [size_putRow]; exact hB), cell?_putRow_other _ _ blk off _ _ (Or.inl hne)]
    exact hc)
theorem own_short {w : World} {B g cap n m : Nat} {e : TypeId} {ts : List (List UInt8)} (h : w.ownsRow B e 1 (.slice (some ⟨g, 0, none⟩) n cap) n (ts.map encStr)) (hm : m ≤ n) : w.ownsRow B e 1 (.slice (some ⟨g, 0, none⟩) m cap) m ((ts.take m).map encStr) := by
  have hl : ts.length = n := by have := h.1; simpa using this
  rcases h.2 with ⟨hv, _⟩ | ⟨g', cap', cur, hv, hb0, hg, hn, hc, hs, ht⟩
  · simp at hv
  · simp only [Value.slice.injEq, Option.some.injEq, Addr.mk.injEq, and_true, true_and] at hv
    obtain ⟨rfl, rfl⟩ := hv
    refine ⟨by simp; omega, .inr ⟨g, cap, cur, rfl, hb0, hg, by omega, hc, hs, ?_⟩⟩
    rw [List.map_take, ← ht, List.take_take]
    congr 1
    omega
theorem zv_str (w : World) : (zeroValue 9).run Tryz.prog w = .ok (encStr []) w := by
  cases hi : Tryz.prog.info? 9 with
  | none =>
    have h : (Tryz.prog.info? 9).isSome = true := by kernel_rfl
    rw [hi] at h; cases h
  | some i =>
    have h : (Tryz.prog.info? 9).map (·.zero) = some (some (encStr [])) := by kernel_rfl
    rw [hi] at h
    simp only [Option.map_some, Option.some.injEq] at h
    simp [zeroValue, typeInfo, hi, h]
set_option maxHeartbeats 2000000 in
theorem dels_walk {w : World} {base g cap B : Nat} {L : List (List UInt8)} (first : ByteArray) (h : w.ownsRow base 9 1 (.slice (some ⟨g, 0, none⟩) L.length cap) L.length (L.map encStr)) (hc : w.cell? ⟨B, 0, none⟩ = some (.string first)) (hne : B ≠ g) :
    Calls Tryz.prog 49 #[.slice (some ⟨g, 0, none⟩) L.length cap, .func (.func 51) #[] #[.pointer (some ⟨B, 0, none⟩)]] w fun e w' =>
      e = .returned (.slice (some ⟨g, 0, none⟩) (L.filter fun x => first.data.toList.isPrefixOf x).length cap) ∧
      w'.ownsRow base 9 1 (.slice (some ⟨g, 0, none⟩) (L.filter fun x => first.data.toList.isPrefixOf x).length cap) (L.filter fun x => first.data.toList.isPrefixOf x).length ((L.filter fun x => first.data.toList.isPrefixOf x).map encStr) ∧ w.grownBy w' (some g) := by
  rcases h.2 with ⟨hv, _⟩ | ⟨g', cap', cur, hv, hb0, hg, hn, hcm, hs, ht⟩
  · simp at hv
  · simp only [Value.slice.injEq, Option.some.injEq, Addr.mk.injEq, and_true, true_and] at hv
    obtain ⟨rfl, rfl⟩ := hv
    have hH := holds_of_block hg (by simpa using ht)
    have eg : ∀ args w, (callFunc 51 args).run Tryz.prog w = .ok (.enter 51 args) w := enters_of Tryz.func51 (by kernel_rfl) rfl
    have hm : L.length ≤ 9223372036854775807 := by unfold maxLen at hcm; omega
    have con := AnyE.slices_DeleteFunc Tryz.delS encStr (fun _ => rfl) (fun x => !first.data.toList.isPrefixOf x) 51 #[.pointer (some ⟨B, 0, none⟩)] eg [] zv_str g 0 cap L.toArray w (pre_at first B w hc) (pre_over first B g 0 _ w hne hc) hH (by simpa using hm) (by simpa using hn)
    change Calls Tryz.prog 49 _ _ _ at con
    simp only [List.size_toArray, Bool.not_not] at con
    refine con.mono ?_
    rintro e w' ⟨rfl, q, rfl⟩
    have hle := List.length_filter_le (fun x => first.data.toList.isPrefixOf x) L
    have o := ownsRow_sorted (w := w) (n := q) (os := #[]) (ss := L) (ts := (L.filter fun x => first.data.toList.isPrefixOf x) ++ List.replicate (L.length - (L.filter fun x => first.data.toList.isPrefixOf x).length) []) (by simp; omega) hb0 hg hn hcm hs
    rw [grow_empty] at o
    have o2 := own_short o hle
    rw [List.take_left' rfl] at o2
    refine ⟨rfl, o2, ?_⟩
    have := grownBy_sorted (w := w) (g := g) (n := q) (os := #[]) ((L.filter fun x => first.data.toList.isPrefixOf x) ++ List.replicate (L.length - (L.filter fun x => first.data.toList.isPrefixOf x).length) []).toArray
    rw [grow_empty] at this
    exact this
theorem idxN_walk (f : Value) (w : World) : Calls Tryz.prog 68 #[.slice none 0 0, f] w fun e w' => e = .returned (.int .i64 (-1)) ∧ w' = w := by
  go_enter Tryz.func68, Tryz.ntmps68
  go_wp2_with (fail)
  go_loopw [8] (fun x8 wr => x8 = .int .i64 0 ∧ wr = w) (fun _ _ => 0)
  case atStart => exact ⟨rfl, rfl⟩
  case round =>
    obtain ⟨rfl, rfl⟩ := hrel
    go_wp2_with (fail)
    go_ret
    exact ⟨rfl, rfl⟩
theorem delN_walk (f : Value) (w : World) : Calls Tryz.prog 49 #[.slice none 0 0, f] w fun e w' => e = .returned (.slice none 0 0) ∧ w' = w := by
  go_enter Tryz.func49, Tryz.ntmps49
  go_wp2_with (fail)
  refine (idxN_walk f w).mono ?_
  rintro e w1 ⟨rfl, rfl⟩
  go_wp2_with (fail)
  go_ret
  exact ⟨rfl, rfl⟩
end Go.Proofs.YtnophelfpoldfaaGreatDoor

/- The store's keys and Keys: what they hand back. -/
namespace Go.Proofs.YtnophelfpoldfaaGreatDoor
open Go.RowKit Go.Maps Go.Sort Go.Shelf Go.Lib

/-- all keys that begin so, rising -/
structure KeysS (M : Mp) (p8 : List UInt8) (ks : List (List UInt8)) : Prop where
  nd : (ks.map n8k).Nodup
  ok : ∀ k ∈ ks.map n8k, ES.ok k
  mem : ∀ k, ES.ok k → (k ∈ ks.map n8k ↔ (M k).isSome = true ∧ p8.isPrefixOf (u8k k) = true)
  up : ks.Pairwise (fun a b => a < b)
theorem keysS_of {M : Mp} {ss : List (List UInt8)} (h1 : (ss.map n8k).Nodup) (h2 : ∀ k ∈ ss.map n8k, ES.ok k) (h3 : ∀ k, ES.ok k → (k ∈ ss.map n8k ↔ (M k).isSome = true)) (p8 : List UInt8) :
    KeysS M p8 ((ss.mergeSort leB).filter fun x => p8.isPrefixOf x) := by
  have hp := List.mergeSort_perm ss leB
  have hpm : ((ss.mergeSort leB).map n8k).Perm (ss.map n8k) := hp.map _
  have nd' : ((ss.mergeSort leB).map n8k).Nodup := hpm.nodup_iff.2 h1
  have hm : ∀ k, k ∈ ((ss.mergeSort leB).filter fun x => p8.isPrefixOf x).map n8k ↔ k ∈ ss.map n8k ∧ p8.isPrefixOf (u8k k) = true := by
    intro k
    simp only [List.mem_map, List.mem_filter]
    constructor
    · rintro ⟨x, ⟨hx, hpx⟩, rfl⟩
      exact ⟨⟨x, hp.mem_iff.1 hx, rfl⟩, by rw [u8k_n8k]; exact hpx⟩
    · rintro ⟨⟨x, hx, rfl⟩, hpx⟩
      exact ⟨x, ⟨hp.mem_iff.2 hx, by rw [u8k_n8k] at hpx; exact hpx⟩, rfl⟩
  refine ⟨?_, fun k hk => h2 k ((hm k).1 hk).1, fun k hk => by rw [hm, h3 k hk], ?_⟩
  · exact List.Pairwise.sublist (List.Sublist.map _ List.filter_sublist) nd'
  · have tr : ∀ a b c : List UInt8, leB a b = true → leB b c = true → leB a c = true := fun a b c h1 h2 => by simp only [leB, decide_eq_true_eq] at *; exact List.le_trans h1 h2
    have to : ∀ a b : List UInt8, (leB a b || leB b a) = true := fun a b => by simp only [leB, Bool.or_eq_true, decide_eq_true_eq]; exact List.le_total a b
    have pw := List.pairwise_mergeSort tr to ss
    have nd2 : (ss.mergeSort leB).Pairwise (fun a b => a ≠ b) := (List.pairwise_map.1 nd').imp (fun h e => h (by rw [e]))
    refine List.Pairwise.sublist List.filter_sublist ((pw.and nd2).imp ?_)
    rintro a b ⟨h1, h2⟩
    simp only [leB, decide_eq_true_eq] at h1
    exact Decidable.byContradiction fun h => h2 (List.le_antisymm h1 (List.not_lt.1 h))
def KeysR (w : World) (M : Mp) (n : Nat) (p8 : List UInt8) (e : Ending) (w' : World) : Prop := ∃ v ks, e = .returned v ∧ KeysS M p8 ks ∧ ks.length ≤ n ∧ w'.ownsRow w.heap.size 9 1 v ks.length (ks.map encStr) ∧ Below w.heap.size w w'
set_option maxRecDepth 100000 in
set_option maxHeartbeats 4000000 in
theorem skeys_walk {w : World} {sb jb mb n : Nat} {M : Mp} (hs : StB w sb jb mb) (hm : MpAt w mb M n) (hn : n ≤ 1000000) (first : ByteArray) :
    Calls Tryz.prog 37 #[.pointer (some ⟨sb, 0, none⟩), .string first] w (KeysR w M n first.data.toList) := by
  obtain ⟨V, hV1, hV2, hV3⟩ := hm.ex
  have RW := fun (wx : World) (bx : Below w.heap.size w wx) => hid (rising_walk wx (hV1.below bx) (by omega))
  have V2 := hid hV2
  have B1 := hid ((Below.refl w.heap.size w).alloc (Nat.le_refl _) (.cells #[.string first] 9))
  have H1 := hid (heap_alloc_new w (.cells #[.string first] 9))
  have s1 := cell_keep B1.out hs.c1
  clear hs hm hV1 hV2 hV3
  go_enter Tryz.func37, Tryz.ntmps37
  go_wp2_with (fail)
  refine (RW _ B1.out).out.mono ?_
  rintro e w2 ⟨v, ss, rfl, ⟨k1, k2, k3⟩, hl, ho, hnil, hb⟩
  have KS := hid (keysS_of (M := M) k1 k2 (fun k hk => by rw [k3 k hk, V2.out]) first.data.toList)
  have HL := hid hl
  have BB := hid (B1.out.trans (hb.mono B1.out.size))
  have HB := hid hb
  have hc := cell_keep hb (gen_cell (L := [.string first]) (j := 0) (row_range H1.out) rfl)
  have e1 : ss.length = (ss.mergeSort leB).length := (List.length_mergeSort ss).symm
  have LE := hid (show ((ss.mergeSort leB).filter fun x => first.data.toList.isPrefixOf x).length ≤ n by have := List.length_filter_le (fun x => first.data.toList.isPrefixOf x) (ss.mergeSort leB); omega)
  rcases ho.2 with ⟨rfl, hz⟩ | ⟨g, cap, cur, rfl, hb0, hg, rest⟩
  · have hz2 : ss = [] := hnil.1 rfl
    subst hz2
    clear k1 k2 k3 hl ho hnil hb e1 hz
    go_wp2_with (fail)
    refine (delN_walk _ _).mono ?_
    rintro e w3 ⟨rfl, rfl⟩
    go_wp2_with (fail)
    go_ret
    exact ⟨_, _, rfl, KS.out, LE.out, ⟨by simp, .inl ⟨rfl, by simp⟩⟩, BB.out⟩
  · rw [e1] at ho
    have gl := ho.lt g rfl
    have DW := hid (dels_walk first ho hc (by have := gl.1; simp only [World.alloc] at this; simp at this; omega))
    obtain ⟨N, hN⟩ : ∃ N, N = ss.length := ⟨_, rfl⟩
    rw [← e1, ← hN] at DW
    rw [← hN]
    obtain ⟨ks, hks⟩ : ∃ ks, ks = (ss.mergeSort leB).filter fun x => first.data.toList.isPrefixOf x := ⟨_, rfl⟩
    rw [← hks] at DW KS LE
    have GL := hid gl
    clear k1 k2 k3 hl ho hnil hb e1 hg rest hb0 hN hks gl
    go_wp2_with (fail)
    refine DW.out.mono ?_
    rintro e w3 ⟨rfl, o3, g3⟩
    have O3 := hid o3
    have K3 := hid (Keep.grown g3 (S := fun i => some i = some g) (fun i hi => hi.symm))
    clear o3 g3
    go_wp2_with (fail)
    go_ret
    refine ⟨_, ks, rfl, KS.out, LE.out, ?_, ?_⟩
    · refine ⟨O3.out.1, O3.out.2.imp id (fun ⟨g', cap', cur', e, hb', rest⟩ => ⟨g', cap', cur', e, Nat.le_trans B1.out.size hb', rest⟩)⟩
    · refine BB.out.trans (K3.out.below (fun i e => ?_) BB.out.size)
      simp only [Option.some.injEq] at e
      subst e
      exact Nat.le_trans B1.out.size GL.out.1
end Go.Proofs.YtnophelfpoldfaaGreatDoor

/- The store's Keys. -/
namespace Go.Proofs.YtnophelfpoldfaaGreatDoor
open Go.RowKit

/-- a slice of bytes that lies in a row of bytes, of which some may be marked -/
def ByF (w : World) (v : Value) (bs : List Nat) : Prop :=
  ∃ a n c, v = .slice a n c ∧ Sl .u8 w a n c bs ∧ (∀ d ∈ bs, d < 256) ∧ ∀ g off sp, a = some ⟨g, off, sp⟩ → ∃ cur fr, w.heap[g]? = some (.cells cur 5 fr)
theorem ByF.keep {S : Nat → Prop} {w w' : World} {v : Value} {bs : List Nat} (h : ByF w v bs) (k : Keep S w w') (hn : ∀ i, S i → ∀ cur fr, w.heap[i]? ≠ some (.cells cur 5 fr)) : ByF w' v bs := by
  obtain ⟨a, n, c, rfl, hs, hb, hg⟩ := h
  have key : ∀ g off sp, a = some ⟨g, off, sp⟩ → ¬ S g := fun g off sp e hs => by
    obtain ⟨cur, fr, hc⟩ := hg g off sp e
    exact hn g hs cur fr hc
  refine ⟨a, n, c, rfl, ?_, hb, fun g off sp e => ?_⟩
  · obtain ⟨h1, h2, h3, h4, b, off, ha, hc⟩ := hs
    refine ⟨h1, h2, h3, h4, b, off, ha, fun j u hu => ?_⟩
    have hj : 0 < n := by
      have := (List.getElem?_eq_some_iff.1 hu).1
      rw [h1] at this; omega
    exact k.cell (hc j u hu) (key b off none (ha hj))
  · obtain ⟨cur, fr, hc⟩ := hg g off sp e
    exact ⟨cur, fr, k.heap hc (key g off sp e)⟩
theorem ByF.below {w w' : World} {v : Value} {bs : List Nat} (h : ByF w v bs) (b : Below w.heap.size w w') : ByF w' v bs := h.keep (Keep.of (S := fun _ => False) b) (fun _ h => h.elim)
theorem conv_str (w : World) (x : List UInt8) (hx : x.length ≤ maxLen) : ∃ c wz, (convert 9 22 (.string ⟨x.toArray⟩)).run Tryz.prog w = .ok (.slice (some ⟨w.heap.size, 0, none⟩) x.length c) wz ∧ ByF wz (.slice (some ⟨w.heap.size, 0, none⟩) x.length c) (n8k x) ∧ Below w.heap.size w wz := by
  have hsz : (⟨x.toArray⟩ : ByteArray).size = x.length := by simp [ByteArray.size]
  refine ⟨_, _, run_bytes_of_string w _ _ _ ⟨x.toArray⟩ Tryz.underlying9 Tryz.underlying22 Tryz.underlying5, ?_, (Below.refl w.heap.size w).drew.trans ((Below.refl w.heap.size w.drew).alloc (Nat.le_refl _) _)⟩
  rw [hsz]
  have hnew := heap_alloc_new w.drew (.cells (bytesRow ⟨x.toArray⟩ (grownCap w x.length 0 5)) 5 ((bytesRow ⟨x.toArray⟩ (grownCap w x.length 0 5)).size, (bytesRow ⟨x.toArray⟩ (grownCap w x.length 0 5)).size + 1))
  refine ⟨_, _, _, rfl, ⟨by simp [n8k], grownCap_ge w _ _ _, grownCap_le_maxLen w _ _ _ hx, (fun e => nomatch e), w.heap.size, 0, fun _ => rfl, fun j u hu => ?_⟩, n8k_lt x, fun g off sp e => ?_⟩
  · have hj : j < x.length := by have := (List.getElem?_eq_some_iff.1 hu).1; simpa [n8k] using this
    have hv : (nums .u8 (n8k x))[j]? = some (.int .u8 (x[j].toNat : Int)) := by simp [nums, n8k, List.getElem?_eq_getElem hj]
    rw [hv] at hu
    have hb := bytesRow_at ⟨x.toArray⟩ (grownCap w x.length 0 5) j (by simpa using hj)
    show (w.drew.alloc _).cell? ⟨w.drew.heap.size, 0 + j, none⟩ = _
    simp only [World.cell?, hnew, Nat.zero_add]
    simp only [Option.isSome_none, Bool.false_eq_true, if_false]
    rw [hb, ← hu]
    simp
  · simp only [Option.some.injEq, Addr.mk.injEq] at e
    obtain ⟨rfl, _, _⟩ := e
    exact ⟨_, _, hnew⟩
def ByFs (w : World) (vs : List Value) (rs : List (List Nat)) : Prop := vs.length = rs.length ∧ ∀ (i : Nat) (v : Value) (r : List Nat), vs[i]? = some v → rs[i]? = some r → ByF w v r
theorem ByFs.keep {S : Nat → Prop} {w w' : World} {vs : List Value} {rs : List (List Nat)} (h : ByFs w vs rs) (k : Keep S w w') (hn : ∀ i, S i → ∀ cur fr, w.heap[i]? ≠ some (.cells cur 5 fr)) : ByFs w' vs rs := ⟨h.1, fun i v r hv hr => (h.2 i v r hv hr).keep k hn⟩
theorem ByFs.below {w w' : World} {vs : List Value} {rs : List (List Nat)} (h : ByFs w vs rs) (b : Below w.heap.size w w') : ByFs w' vs rs := ⟨h.1, fun i v r hv hr => (h.2 i v r hv hr).below b⟩
theorem ByFs.nil (w : World) : ByFs w [] [] := ⟨rfl, fun i v r h => by simp at h⟩
theorem ByFs.snoc {w : World} {vs : List Value} {rs : List (List Nat)} (h : ByFs w vs rs) {v : Value} {r : List Nat} (hv : ByF w v r) : ByFs w (vs ++ [v]) (rs ++ [r]) := by
  refine ⟨by simp [h.1], fun i u s hu hs => ?_⟩
  by_cases hi : i < vs.length
  · rw [List.getElem?_append_left hi] at hu
    rw [List.getElem?_append_left (by have := h.1; omega)] at hs
    exact h.2 i u s hu hs
  · rw [List.getElem?_append_right (by omega)] at hu
    rw [List.getElem?_append_right (by have := h.1; omega), ← h.1] at hs
    have : i - vs.length = 0 := by have := (List.getElem?_eq_some_iff.1 hu).1; simp at this; omega
    rw [this] at hu hs
    simp at hu hs
    subst hu hs
    exact hv
/-- what Keys hands back -/
def KeyL (w : World) (M : Mp) (n : Nat) (p8 : List UInt8) (e : Ending) (w' : World) : Prop := ∃ v ks vs, e = .returned v ∧ KeysS M p8 ks ∧ ks.length ≤ n ∧ w'.ownsRow w.heap.size 22 1 v ks.length vs ∧ ByFs w' vs (ks.map n8k) ∧ Below w.heap.size w w'
theorem keys_nil (w : World) (v : Value) : Calls Tryz.prog 16 #[.pointer none, v] w fun e w' => e = .returned (.slice none 0 0) ∧ w = w' := by
  go_enter Tryz.func16, Tryz.ntmps16
  go_wp2_with (fail)
  go_ret
  exact ⟨rfl, rfl⟩
def KeyI (_w wk : World) (ks : List (List UInt8)) (i : Nat) (v : Value) (wr : World) : Prop := ∃ vs, wr.ownsRow wk.heap.size 22 1 v i vs ∧ ByFs wr vs ((ks.take i).map n8k) ∧ Below wk.heap.size wk wr
set_option maxRecDepth 100000 in
set_option maxHeartbeats 4000000 in
theorem Keys_walk {w : World} {sb jb mb n : Nat} {M : Mp} (hs : StB w sb jb mb) (hm : MpAt w mb M n) (hn : n ≤ 1000000) (a : Option Addr) (N c : Nat) (fs : List Nat) (hk : Sl .u8 w a N c fs) :
    Calls Tryz.prog 16 #[.pointer (some ⟨sb, 0, none⟩), .slice a N c] w (KeyL w M n (u8k fs)) := by
  have KW := hid (skeys_walk hs hm hn (bytesOf fs))
  rw [bytesOf_u8] at KW
  have cv := conv_bytes hk Tryz.underlying22 Tryz.underlying5 Tryz.underlying9
  have HN := hid hn
  clear hs hm hn hk
  go_enter Tryz.func16, Tryz.ntmps16
  go_wp2_with (fail)
  refine KW.out.mono ?_
  rintro e wk ⟨v, ks, rfl, hks, hl, ho, hb⟩
  have KS := hid hks
  have KL := hid hl
  have BK := hid hb
  obtain ⟨a5, c5, rfl, rd⟩ := Rd.of_owns ho
  have RD := hid rd
  obtain ⟨L, hL⟩ : ∃ L, L = ks.length := ⟨_, rfl⟩
  have LL := hid hL
  rw [← hL]
  rw [← hL] at RD
  clear hks hl ho hb rd hL cv KW
  go_upto_region 5 with (fail)
  go_loopw [5, 15] (fun x5 x15 wr => ∃ (i : Nat) (v5 : Value), v5 = x5 ∧ i ≤ L ∧ x15 = .int .i64 (i : Int) ∧ KeyI w wk ks i v5 wr) (fun _ x15 _ => L - (intOf x15).toNat)
  case atStart => exact ⟨0, _, rfl, Nat.zero_le _, rfl, [], ⟨by simp, .inl ⟨rfl, rfl⟩⟩, ByFs.nil _, Below.refl _ _⟩
  case round =>
    obtain ⟨i, v5, rfl, hi, rfl, vi, hoi, hri, hbi⟩ := hrel
    have OI := hid hoi
    have RI := hid hri
    have BI := hid hbi
    clear hoi hri hbi
    by_cases hlt : i < L
    case neg =>
      obtain rfl : i = L := by omega
      have t1 : decide (i < i) = false := decide_eq_false (by omega)
      have t2 : decide ((i : Int) < (i : Int)) = false := decide_eq_false (by omega)
      clear hi hlt
      go_wp2_with (fail)
      go_ret
      have hr := RI.out
      rw [LL.out, List.take_length] at hr
      have ho := OI.out
      rw [LL.out] at ho
      exact ⟨_, ks, vi, rfl, KS.out, KL.out, ⟨ho.1, ho.2.imp id (fun ⟨g', cap', cur', e, hb', rest⟩ => ⟨g', cap', cur', e, Nat.le_trans BK.out.size hb', rest⟩)⟩, hr, BK.out.trans (BI.out.mono BK.out.size)⟩
    have t1 : decide (i < L) = true := decide_eq_true hlt
    have t2 : decide ((i : Int) < (L : Int)) = true := decide_eq_true (by omega)
    have hir : i < ks.length := by rw [← LL.out]; exact hlt
    obtain ⟨x, hx⟩ : ∃ x, ks[i]? = some x := ⟨_, List.getElem?_eq_getElem hir⟩
    obtain ⟨_, _, _, _, b, off, ha, hc⟩ := RD.out
    obtain rfl := ha (by omega)
    have cq := cell_keep BI.out (hc i (encStr x) (by rw [List.getElem?_map, hx]; rfl))
    have XL := hid (show x.length ≤ maxLen by
      have := (KS.out.ok (n8k x) (List.mem_map_of_mem (List.mem_of_getElem? hx))).1
      simpa [n8k] using this)
    obtain ⟨c6, wz, cv, hz, bz⟩ := conv_str wr x XL.out
    have HZ := hid hz
    have BZ := hid bz
    have HX := hid hx
    obtain ⟨i1, hi1⟩ : ∃ i1, i1 = i + 1 := ⟨_, rfl⟩
    have r4 : IntKind.i64.wrap ((i : Int) + 1) = (i1 : Int) := by have := HN.out; have := KL.out; rw [IntKind.wrap_i64]; omega
    have I1 := hid hi1
    have LT := hid hlt
    clear hi hlt hir hx ha hc hz bz hi1
    go_upto_region 7 with (fail)
    go_wp2_with (at_builtin; refine wpList_pushK rfl _ _ 39 rfl tySs wk.heap.size (own_below OI.out BZ.out) rfl rfl rfl rfl (by have := LT.out; have := HN.out; have := KL.out; have := LL.out; omega) (by decide) (Nat.le_trans BI.out.size BZ.out.size) ?_; intro v7 w7 own7 k7 nb7; have O7 := hid own7; have K7 := hid k7; clear own7 k7 nb7)
    have R7 := hid (show KeyI w wk ks i1 v7 w7 from by
      refine ⟨_, by rw [I1.out]; exact O7.out, ?_, (BI.out.trans (BZ.out.mono BI.out.size)).trans (K7.out.below (fun g hg => ((own_below OI.out BZ.out).lt g hg).1) (Nat.le_trans BI.out.size BZ.out.size))⟩
      rw [I1.out, List.take_add_one, HX.out, List.map_append]
      exact ((RI.out.below BZ.out).snoc HZ.out).keep K7.out (fun g hg cur fr e => by
        obtain ⟨cu, hcu⟩ := own_obj (own_below OI.out BZ.out) hg
        rw [hcu] at e
        simp only [Option.some.injEq, Obj.cells.injEq] at e
        exact absurd e.2.1 (by decide)))
    clear O7 K7 RI OI
    go_wp2_with (fail)
    go_roundw
    case rel => exact ⟨i1, v7, rfl, by have := I1.out; have := LT.out; omega, rfl, R7.out⟩
    case measure => simp [intOf]; have := I1.out; have := LT.out; omega
end Go.Proofs.YtnophelfpoldfaaGreatDoor
