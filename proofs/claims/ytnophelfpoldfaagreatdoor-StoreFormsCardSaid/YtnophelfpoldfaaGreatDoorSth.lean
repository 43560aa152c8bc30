/- The chapter's head: the document's example. -/
import Derived.Test.YtnophelfpoldfaaGreatDoorGStg
import Derived.Test.YtnophelfpoldfaaGreatDoorGStz
import Derived.Test.YtnophelfpoldfaaGreatDoorGJhd
import Derived.Lib.SlBytesConst
import Derived.Lib.SmallJoins
namespace Go.Proofs.YtnophelfpoldfaaGreatDoor
open Go.RowKit

theorem openS_new : openS (fun _ => none) [[]] = some (fun _ => none) := rfl
theorem sopen_new {w : World} {db Bd n : Nat} {sd : Value} (d : DiskAt w db Bd sd (.slice none 0 0) (List.replicate n z64) []) (ht : Tabs w) (h1 : 1 ≤ n / 2) :
    Calls Tryz.prog 12 #[.pointer (some ⟨db, 0, none⟩)] w fun e w' => ∃ sb S m, e = .returned (.tuple #[.pointer (some ⟨sb, 0, none⟩), .int .i64 0]) ∧ StoA w' S sb (fun _ => none) m (n / 2) 1 ∧ m ≤ 128 ∧ Keep (fun i => i = db ∨ sd.ownBlock = some i) w w' ∧ ∀ i, S i → i = db ∨ sd.ownBlock = some i ∨ w.heap.size ≤ i := by
  have cl : (layB (List.replicate n z64) 0 (recB z32 (be8 1)) 1).length = n := by rw [layB_len, List.length_replicate]
  have JO : Calls Tryz.prog 8 #[.pointer (some ⟨db, 0, none⟩)] w (JOk w (fun i => i = db ∨ sd.ownBlock = some i) db Bd sd (layB (List.replicate n z64) 0 (recB z32 (be8 1)) 1) 0 1 1 (recH z32 (be8 1)) [] []) := by
    refine (jopen_new d ht (fun half hh b h t hr => fresh_no n half hh b h t hr)).mono ?_
    rintro e w' h
    unfold OpenN at h
    rw [if_pos (by rw [List.length_replicate]; exact h1)] at h
    obtain ⟨jb, rfl, j, d, k⟩ := h
    exact ⟨jb, _, rfl, j, d, k⟩
  have := sopen_walk JO (by
    refine ⟨Nat.lt_of_lt_of_le d.lt.1 d.lt.2, fun g e => ?_⟩
    obtain ⟨vs', o', _⟩ := d.sure
    exact (o'.lt _ e).2) (by decide) (by decide) (by decide) (by rw [cl]; exact h1) (by simp)
  rw [cl] at this
  refine this.mono ?_
  rintro e w' ⟨k, h⟩
  rw [openS_new] at h
  obtain ⟨sb, S, m, rfl, sa, hm, hs⟩ := h
  exact ⟨sb, S, m, rfl, sa, hm, k, hs⟩
theorem fresh_open {w w1 : World} {n : Nat} (hn : 1 ≤ n / 2) (ht : Tabs w) (h : NewR w n w1) :
    Calls Tryz.prog 12 #[.pointer (some ⟨w.heap.size, 0, none⟩)] w1 fun e w2 => ∃ sb S m, e = .returned (.tuple #[.pointer (some ⟨sb, 0, none⟩), .int .i64 0]) ∧ StoA w2 S sb (fun _ => none) m (n / 2) 1 ∧ m ≤ 128 ∧ Below w.heap.size w w2 ∧ ∀ i, S i → w.heap.size ≤ i := by
  obtain ⟨sd, d1, b1⟩ := h
  have sdl : ∀ g, sd.ownBlock = some g → w.heap.size ≤ g := fun g e => by obtain ⟨vs', o', _⟩ := d1.sure; have := (o'.lt _ e).1; omega
  refine (sopen_new d1 (ht.below b1) hn).mono ?_
  rintro e w2 ⟨sb, S, m, rfl, sa, hm, k, hs⟩
  refine ⟨sb, S, m, rfl, sa, hm, b1.trans (k.below (fun i e => ?_) b1.size), fun i hi => ?_⟩
  · rcases e with rfl | e
    · exact Nat.le_refl _
    · exact sdl i e
  · rcases hs i hi with rfl | e | e
    · exact Nat.le_refl _
    · exact sdl i e
    · exact Nat.le_trans b1.size e
theorem sl_mark {w : World} {g : Nat} {c : Nat} {fr : Nat × Nat} (h : w.heap[g]? = some (.cells #[.int .u8 (c : Int)] 5 fr)) : Sl .u8 w (some ⟨g, 0, none⟩) 1 1 [c] := by
  refine ⟨rfl, Nat.le_refl _, by decide, (fun e => nomatch e), g, 0, fun _ => rfl, fun j u hu => ?_⟩
  have hj := (List.getElem?_eq_some_iff.1 hu).1
  obtain rfl : j = 0 := by simp [nums] at hj; omega
  rw [Nat.zero_add]
  simp only [World.cell?, h]
  exact hu
theorem rd_rowG {w : World} {g n size : Nat} {cs : Array Value} {T : TypeId} {fr : Nat × Nat} (h : w.heap[g]? = some (.cells cs T fr)) (hn : cs.size = n * size) (hm : n ≤ maxLen) : Rd w size (some ⟨g, 0, none⟩) n n cs.toList := by
  refine ⟨by simpa using hn, Nat.le_refl _, hm, (fun e => nomatch e), g, 0, fun _ => rfl, fun j u hu => ?_⟩
  rw [Nat.zero_add]
  simp only [World.cell?, h]
  simpa using hu
/-- the example's changes -/
def hdL1 (g : Nat) : List LC := [⟨some ⟨g, 0, none⟩, 1, [49], some ⟨g + 1, 0, none⟩, 1, [97], false⟩, ⟨some ⟨g + 2, 0, none⟩, 1, [50], some ⟨g + 3, 0, none⟩, 1, [98], false⟩]
def hdL2 (g : Nat) : List LC := [⟨some ⟨g, 0, none⟩, 1, [49], none, 0, [], true⟩]
theorem hdLen1 : 1 = (99 + (encAll (encC [⟨[49], [97], false⟩, ⟨[50], [98], false⟩])).length) / 64 := by decide
theorem hdLen2 : 1 = (99 + (encAll (encC [⟨[49], [], true⟩])).length) / 64 := by decide
def hdM1 : Mp := takeM (fun _ => none) [⟨[49], [97], false⟩, ⟨[50], [98], false⟩]
def hdM2 : Mp := takeM hdM1 [⟨[49], [], true⟩]
theorem hdM2_some (k : List Nat) : (hdM2 k).isSome = true ↔ k = [50] := by
  unfold hdM2 hdM1 takeM stepM
  simp only [List.foldl_cons, List.foldl_nil]
  by_cases h1 : k = [49]
  · subst h1; simp
  · by_cases h2 : k = [50]
    · subst h2; simp
    · simp [h1, h2]
theorem hdM2_at : hdM2 [50] = some [98] := rfl
theorem keys_one {M : Mp} {p8 : List UInt8} {ks : List (List UInt8)} (h : KeysS M p8 ks) (k : List Nat) (hk : ES.ok k) (hM : ∀ x, (M x).isSome = true ↔ x = k) (hp : p8.isPrefixOf (u8k k) = true) : ks = [u8k k] := by
  have hl : (ks.map n8k).length = [k].length := len_of_same h.nd (by simp) (fun x => by
    constructor
    · intro hx
      have := (h.mem x (h.ok x hx)).1 hx
      simp [(hM x).1 this.1]
    · intro hx
      simp only [List.mem_cons, List.not_mem_nil, or_false] at hx
      subst hx
      exact (h.mem x hk).2 ⟨(hM x).2 rfl, hp⟩)
  match ks, hl with
  | [x], _ =>
    have hx : n8k x ∈ [x].map n8k := by simp
    have := (hM _).1 ((h.mem _ (h.ok _ hx)).1 hx).1
    rw [← this, u8k_n8k]
theorem keys_none {M : Mp} {p8 : List UInt8} {ks : List (List UInt8)} (h : KeysS M p8 ks) (hM : ∀ x, (M x).isSome = false) : ks = [] := by
  cases ks with
  | nil => rfl
  | cons x r =>
    have hx : n8k x ∈ (x :: r).map n8k := by simp
    have := ((h.mem _ (h.ok _ hx)).1 hx).1
    rw [hM] at this; cases this
theorem heap_new2 (w : World) (o : Obj) (n : Nat) (hn : w.heap.size = n) : (w.alloc o).heap[n]? = some o := hn ▸ heap_alloc_new w o
theorem heap_old {w : World} {i : Nat} {x : Obj} (h : w.heap[i]? = some x) (o : Obj) : (w.alloc o).heap[i]? = some x := heap_keep h ((Below.refl _ _).alloc (Nat.le_refl _) o)
/-- the world in which the first Put is called -/
def hdW1 (w : World) : World := ((((w.alloc (.cells #[.int .u8 49] 5 (1, 2))).alloc (.cells #[.int .u8 97] 5 (1, 2))).alloc (.cells #[.int .u8 50] 5 (1, 2))).alloc (.cells #[.int .u8 98] 5 (1, 2))).alloc
  (.cells #[.slice (some ⟨w.heap.size, 0, none⟩) 1 1, .slice (some ⟨w.heap.size + 1, 0, none⟩) 1 1, .bool false, .slice (some ⟨w.heap.size + 1 + 1, 0, none⟩) 1 1, .slice (some ⟨w.heap.size + 1 + 1 + 1, 0, none⟩) 1 1, .bool false] 42)
theorem hdW1_below (w : World) : Below w.heap.size w (hdW1 w) := (((((Below.refl w.heap.size w).alloc (Nat.le_refl _) _).alloc (by simp) _).alloc (by simp; omega) _).alloc (by simp; omega) _).alloc (by simp; omega) _
theorem hdW1_get (w : World) : (hdW1 w).heap[w.heap.size]? = some (.cells #[.int .u8 49] 5 (1, 2)) ∧ (hdW1 w).heap[w.heap.size + 1]? = some (.cells #[.int .u8 97] 5 (1, 2)) ∧ (hdW1 w).heap[w.heap.size + 2]? = some (.cells #[.int .u8 50] 5 (1, 2)) ∧ (hdW1 w).heap[w.heap.size + 3]? = some (.cells #[.int .u8 98] 5 (1, 2)) ∧
    (hdW1 w).heap[w.heap.size + 4]? = some (.cells #[.slice (some ⟨w.heap.size, 0, none⟩) 1 1, .slice (some ⟨w.heap.size + 1, 0, none⟩) 1 1, .bool false, .slice (some ⟨w.heap.size + 1 + 1, 0, none⟩) 1 1, .slice (some ⟨w.heap.size + 1 + 1 + 1, 0, none⟩) 1 1, .bool false] 42 (0, 0)) := by
  unfold hdW1
  exact ⟨heap_old (heap_old (heap_old (heap_old (heap_new2 _ _ _ rfl) _) _) _) _, heap_old (heap_old (heap_old (heap_new2 _ _ _ (by simp)) _) _) _, heap_old (heap_old (heap_new2 _ _ _ (by simp)) _) _, heap_old (heap_new2 _ _ _ (by simp)) _, heap_new2 _ _ _ (by simp)⟩
def HdR (w : World) (S : Nat → Prop) (sb : Nat) (M : Mp) (next : Nat) (e : Ending) (w' : World) : Prop :=
  e = .returned (.int .i64 0) ∧ (∃ S' m, StoA w' S' sb M m 20 next ∧ m ≤ 200 ∧ ∀ i, S' i → S i ∨ w.heap.size ≤ i) ∧ Keep S w w'
theorem hd_put1 {w : World} {S : Nat → Prop} {sb m : Nat} (sa : StoA w S sb (fun _ => none) m 20 1) (hm : m ≤ 128) (ht : Tabs w) :
    Calls Tryz.prog 14 #[.pointer (some ⟨sb, 0, none⟩), .slice (some ⟨w.heap.size + 1 + 1 + 1 + 1, 0, none⟩) 2 2] (hdW1 w) (HdR w S sb hdM1 2) := by
  have bw := hdW1_below w
  obtain ⟨g0, g1, g2, g3, g4⟩ := hdW1_get w
  have hlt := sa.lt
  have hn : ∀ k, ¬ S (w.heap.size + k) := fun k h => by have := hlt _ h; omega
  refine (sput_walk (sa.below bw) (ht.below bw) (some ⟨w.heap.size + 4, 0, none⟩) 2 2 (hdL1 w.heap.size) (fun w' k => ⟨?_, rfl, ?_⟩) ?_ ?_ (by decide) (by omega) 1 hdLen1 (by decide)).mono ?_
  · exact rd_rowG (n := 2) (size := 3) (k.heap g4 (hn 4)) rfl (by decide)
  · intro l hl
    simp only [hdL1, List.mem_cons, List.not_mem_nil, or_false] at hl
    rcases hl with rfl | rfl
    · exact ⟨sl_mark (c := 49) (k.heap g0 (hn 0)), (show ∀ d ∈ [49], d < 256 by decide), sl_mark (c := 97) (k.heap g1 (hn 1)), (show ∀ d ∈ [97], d < 256 by decide)⟩
    · exact ⟨sl_mark (c := 50) (k.heap g2 (hn 2)), (show ∀ d ∈ [50], d < 256 by decide), sl_mark (c := 98) (k.heap g3 (hn 3)), (show ∀ d ∈ [98], d < 256 by decide)⟩
  · intro l hl
    simp only [hdL1, List.mem_cons, List.not_mem_nil, or_false] at hl
    rcases hl with rfl | rfl <;> exact ⟨by simp, by simp, fun h => nomatch h⟩
  · intro l hl
    simp only [hdL1, List.mem_cons, List.not_mem_nil, or_false] at hl
    rcases hl with rfl | rfl <;> simp
  · rintro e w' ⟨⟨rfl, S', m', sa', hm', hs'⟩, k⟩
    refine ⟨rfl, ⟨S', m', sa', by omega, fun i hi => ?_⟩, (Keep.of bw).trans k⟩
    rcases hs' i hi with h | h
    · exact .inl h
    · exact .inr (Nat.le_trans bw.size h)
def hdW2 (w : World) : World := (w.alloc (.cells #[.int .u8 49] 5 (1, 2))).alloc (.cells #[.slice (some ⟨w.heap.size, 0, none⟩) 1 1, .slice none 0 0, .bool true] 42)
theorem hdW2_below (w : World) : Below w.heap.size w (hdW2 w) := ((Below.refl w.heap.size w).alloc (Nat.le_refl _) _).alloc (by simp) _
theorem hdW2_get (w : World) : (hdW2 w).heap[w.heap.size]? = some (.cells #[.int .u8 49] 5 (1, 2)) ∧ (hdW2 w).heap[w.heap.size + 1]? = some (.cells #[.slice (some ⟨w.heap.size, 0, none⟩) 1 1, .slice none 0 0, .bool true] 42 (0, 0)) := by
  unfold hdW2
  exact ⟨heap_old (heap_new2 _ _ _ rfl) _, heap_new2 _ _ _ (by simp)⟩
theorem hd_put2 {w : World} {S : Nat → Prop} {sb m : Nat} (sa : StoA w S sb hdM1 m 20 2) (hm : m ≤ 200) (ht : Tabs w) :
    Calls Tryz.prog 14 #[.pointer (some ⟨sb, 0, none⟩), .slice (some ⟨w.heap.size + 1, 0, none⟩) 1 1] (hdW2 w) fun e w' => e = .returned (.int .i64 0) ∧ (∃ S' m, StoA w' S' sb hdM2 m 20 3 ∧ m ≤ 300 ∧ ∀ i, S' i → S i ∨ w.heap.size ≤ i) ∧ Keep S w w' := by
  have bw := hdW2_below w
  obtain ⟨g0, g1⟩ := hdW2_get w
  have hlt := sa.lt
  have hn : ∀ k, ¬ S (w.heap.size + k) := fun k h => by have := hlt _ h; omega
  refine (sput_walk (sa.below bw) (ht.below bw) (some ⟨w.heap.size + 1, 0, none⟩) 1 1 (hdL2 w.heap.size) (fun w' k => ⟨?_, rfl, ?_⟩) ?_ ?_ (by decide) (by omega) 1 hdLen2 (by decide)).mono ?_
  · exact rd_rowG (n := 1) (size := 3) (k.heap g1 (hn 1)) rfl (by decide)
  · intro l hl
    simp only [hdL2, List.mem_cons, List.not_mem_nil, or_false] at hl
    subst hl
    exact ⟨sl_mark (c := 49) (k.heap g0 (hn 0)), (show ∀ d ∈ [49], d < 256 by decide), sl_nilG w', (show ∀ d ∈ ([] : List Nat), d < 256 by decide)⟩
  · intro l hl
    simp only [hdL2, List.mem_cons, List.not_mem_nil, or_false] at hl
    subst hl
    exact ⟨by simp, by simp, fun _ => rfl⟩
  · intro l hl
    simp only [hdL2, List.mem_cons, List.not_mem_nil, or_false] at hl
    subst hl
    simp
  · rintro e w' ⟨⟨rfl, S', m', sa', hm', hs'⟩, k⟩
    refine ⟨rfl, ⟨S', m', sa', by omega, fun i hi => ?_⟩, (Keep.of bw).trans k⟩
    rcases hs' i hi with h | h
    · exact .inl h
    · exact .inr (Nat.le_trans bw.size h)
set_option maxRecDepth 100000 in
set_option maxHeartbeats 8000000 in
theorem shead_walk (w : World) (ht : Tabs w) : Calls Tryz.prog 6 #[] w fun e w' => e = .returned (.bool true) ∧ Below w.heap.size w w' := by
  have HT := hid ht
  clear ht
  go_enter Tryz.func6, Tryz.ntmps6
  go_wp2_with (fail)
  refine (dnew_walk 40 rfl w).mono ?_
  rintro e w1 ⟨rfl, d1⟩
  have D1 := hid (show NewR w 40 w1 from d1)
  clear d1
  go_wp2_with (fail)
  refine (fresh_open (n := 40) (by decide) HT.out D1.out).mono ?_
  rintro e w2 ⟨sb, S, m, rfl, sa, hm, b2, hs⟩
  have SA := hid sa
  have HM := hid hm
  have B2 := hid b2
  have HS := hid hs
  clear sa hm b2 hs D1
  have cv1 := Go.Joins.run_convert_bytes_const_at (P := Tryz.prog) w2 22 5 #[.int .u8 49] 1 1 w2.heap.size rfl Tryz.underlying22 Tryz.underlying5
  have cv2 := Go.Joins.run_convert_bytes_const_at (P := Tryz.prog) (w2.alloc (.cells #[.int .u8 49] 5 (1, 2))) 22 5 #[.int .u8 97] 1 1 (w2.heap.size + 1) (by simp) Tryz.underlying22 Tryz.underlying5
  have cv3 := Go.Joins.run_convert_bytes_const_at (P := Tryz.prog) ((w2.alloc (.cells #[.int .u8 49] 5 (1, 2))).alloc (.cells #[.int .u8 97] 5 (1, 2))) 22 5 #[.int .u8 50] 1 1 (w2.heap.size + 1 + 1) (by simp) Tryz.underlying22 Tryz.underlying5
  have cv4 := Go.Joins.run_convert_bytes_const_at (P := Tryz.prog) (((w2.alloc (.cells #[.int .u8 49] 5 (1, 2))).alloc (.cells #[.int .u8 97] 5 (1, 2))).alloc (.cells #[.int .u8 50] 5 (1, 2))) 22 5 #[.int .u8 98] 1 1 (w2.heap.size + 1 + 1 + 1) (by simp) Tryz.underlying22 Tryz.underlying5
  go_wp2_with (fail)
  refine (hd_put1 SA.out HM.out (HT.out.below B2.out)).mono ?_
  rintro e w3 ⟨rfl, ⟨S3, m3, sa3, hm3, hs3⟩, k3⟩
  have SA3 := hid sa3
  have HM3 := hid hm3
  have B3 := hid (B2.out.trans (k3.below HS.out B2.out.size))
  have HS3 := hid (show ∀ i, S3 i → w.heap.size ≤ i from fun i hi => (hs3 i hi).elim (HS.out i) (Nat.le_trans B2.out.size))
  clear sa3 hm3 hs3 k3 SA HM HS cv1 cv2 cv3 cv4 B2
  have cv1 := Go.Joins.run_convert_bytes_const_at (P := Tryz.prog) w3 22 5 #[.int .u8 49] 1 1 w3.heap.size rfl Tryz.underlying22 Tryz.underlying5
  go_wp2_with (fail)
  refine (hd_put2 SA3.out HM3.out (HT.out.below B3.out)).mono ?_
  rintro e w4 ⟨rfl, ⟨S4, m4, sa4, hm4, hs4⟩, k4⟩
  have B4 := hid (B3.out.trans (k4.below HS3.out B3.out.size))
  obtain ⟨jb, mb, sB, mp⟩ := sa4.look
  have SB := hid sB
  have MP := hid mp
  have HM4 := hid hm4
  clear sa4 hm4 hs4 k4 SA3 HM3 HS3 cv1 B3 sB mp
  go_wp2_with (fail)
  refine (Keys_walk SB.out MP.out (by have := HM4.out; omega) none 0 0 [] (sl_nilG w4)).mono ?_
  rintro e w5 ⟨v5, ks, vs, rfl, hks, hl, o5, f5, b5⟩
  have E5 := keys_one hks [50] ⟨by decide, by decide⟩ hdM2_some rfl
  subst E5
  obtain ⟨a5, c5, rfl, rd5⟩ := Rd.of_owns o5
  obtain ⟨u0, hu0⟩ : ∃ u0, vs[0]? = some u0 := ⟨_, List.getElem?_eq_getElem (by rw [f5.1]; decide)⟩
  obtain ⟨a6, n6, c6, rfl, s6, _⟩ := f5.2 0 u0 [50] hu0 rfl
  obtain ⟨_, _, _, _, pb, poff, ha5, hc5⟩ := rd5
  obtain rfl := ha5 (by decide)
  have cq := hc5 0 _ hu0
  rw [Nat.add_zero] at cq
  have S6 := hid s6
  have CQ := hid cq
  have B5 := hid (B4.out.trans (b5.mono B4.out.size))
  have SB5 := hid (SB.out.below b5)
  have MP5 := hid (MP.out.below b5)
  clear hks hl o5 f5 b5 hu0 s6 ha5 hc5 cq SB MP B4
  have cv1 := Go.Joins.run_convert_bytes_const_at (P := Tryz.prog) w5 22 5 #[.int .u8 50] 1 1 w5.heap.size rfl Tryz.underlying22 Tryz.underlying5
  go_wp2_with (fail)
  have bw := (Below.refl w5.heap.size w5).alloc (Nat.le_refl _) (.cells #[.int .u8 50] 5 (1, 2))
  refine (get_walk (SB5.out.below bw) (MP5.out.below bw) (some ⟨w5.heap.size, 0, none⟩) 1 1 [50] (sl_mark (c := 50) (heap_alloc_new w5 (.cells #[.int .u8 50] 5 (1, 2)))) (by decide)).mono ?_
  rintro e w7 ⟨v7, rfl, o7, b7⟩
  rw [hdM2_at] at o7
  have B57 := hid (bw.trans (b7.mono bw.size))
  obtain ⟨a7, c7, rfl, rd7⟩ := Rd.of_owns o7
  have s7 : Sl .u8 w7 a7 1 c7 [98] := rd7
  have B7 := hid (B5.out.trans (B57.out.mono B5.out.size))
  have cq := cell_keep B57.out CQ.out
  have cs1 := conv_bytes (S6.out.below B57.out) Tryz.underlying22 Tryz.underlying5 Tryz.underlying9
  have cs2 := conv_bytes s7 Tryz.underlying22 Tryz.underlying5 Tryz.underlying9
  have st1 : ((bytesOf [50]).toList == [50]) = true := by rw [beq_iff_eq, bytesOf_toList]; rfl
  have st2 : ((bytesOf [98]).toList == [98]) = true := by rw [beq_iff_eq, bytesOf_toList]; rfl
  have st3 : (bytesOf [50]).toList = [50] := by rw [bytesOf_toList]; rfl
  have st4 : (bytesOf [98]).toList = [98] := by rw [bytesOf_toList]; rfl
  clear o7 rd7 s7 b7 bw cv1 S6 CQ
  go_wp2_with (fail)
  go_ret
  exact ⟨rfl, B7.out⟩
end Go.Proofs.YtnophelfpoldfaaGreatDoor
