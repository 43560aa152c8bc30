/- Contracts of package asset: PutPoint, GetPoint. -/
import Derived.Test.YtgaidleepjkldaaAsset
import Derived.Test.YtgaidleepjkldaaCatS
namespace Go.Proofs.Ytgaidleepjkldaa
open Go.RowKit

theorem rd_newN (Y : World) (us : Array Value) (T : TypeId) {n : Nat} (hn : us.size = n) (hm : n ≤ maxLen) : Rd (Y.alloc (.cells us T)) 1 (some ⟨Y.heap.size, 0, none⟩) n n us.toList := by
  obtain ⟨a, c, he, hr⟩ := Rd.of_owns (own_new Y us T (size := 1) (n := n) (B := 0) (by omega) (Nat.zero_le _) hm)
  simp only [Value.slice.injEq, true_and] at he
  obtain ⟨rfl, rfl⟩ := he
  exact hr
theorem rd_afterN {Y wA : World} {us : Array Value} {T : TypeId} {n : Nat} (hn : us.size = n) (hm : n ≤ maxLen) (b : Below (Y.alloc (.cells us T)).heap.size (Y.alloc (.cells us T)) wA) : Rd wA 1 (some ⟨Y.heap.size, 0, none⟩) n n us.toList :=
  (rd_newN Y us T hn hm).below b
theorem rd_afterND {Y wA : World} {us : Array Value} {T : TypeId} {n : Nat} (hn : us.size = n) (hm : n ≤ maxLen) (b : Below ((Y.alloc (.cells us T)).drew).heap.size ((Y.alloc (.cells us T)).drew) wA) : Rd wA 1 (some ⟨Y.heap.size, 0, none⟩) n n us.toList :=
  rd_afterN (Y := Y) hn hm (((Below.refl _ _).drew).trans b)
theorem u8w {o : Nat} (h : o < 256) : IntKind.u8.wrap (o : Int) = (o : Int) := by simp [IntKind.wrap, IntKind.bits, IntKind.signed]; omega
theorem own_nil (w : World) (B : Nat) (e : TypeId) (size : Nat) : w.ownsRow B e size (.slice none 0 0) 0 [] := ⟨by simp, .inl ⟨rfl, rfl⟩⟩
/-- an output's cells -/
def ptv (tx : List Nat) (o : Nat) : Array Value := (nums .u8 tx ++ [Value.int .i64 (o : Int)]).toArray
def ptb (tx : List Nat) (o : Nat) : List Nat := tx ++ [0, 0, 0, o]
def PutRes (w : World) (bs : List Nat) (e : Ending) (w' : World) : Prop := ∃ v, e = .returned v ∧ v ≠ .slice none 0 0 ∧ w'.ownsRow w.heap.size 5 1 v bs.length (nums .u8 bs) ∧ Below w.heap.size w w'
theorem szH (w : World) : (sizeOf (Try.prog.elem 23)).run Try.prog w = .ok 1 w := by
  have h := infoU8
  have e : Try.prog.elem 23 = 5 := by kernel_rfl
  rw [e]
  cases hi : Try.prog.info? 5 with
  | none => rw [hi] at h; cases h
  | some i =>
    rw [hi] at h
    simp only [Option.map_some, Option.some.injEq, Prod.mk.injEq] at h
    simp [sizeOf, typeInfo, hi, h.2.1]
theorem put_fin {w : World} {B : Nat} {v : Value} {tx : List Nat} {o : Nat} (ht : tx.length = 32) (h : w.ownsRow B 5 1 v (0 + 32 + 4) ([] ++ nums .u8 tx ++ #[Value.int .u8 0, Value.int .u8 0, Value.int .u8 0, Value.int .u8 (o : Int)].toList)) :
    v ≠ .slice none 0 0 ∧ w.ownsRow B 5 1 v (ptb tx o).length (nums .u8 (ptb tx o)) := by
  have e : ([] ++ nums .u8 tx ++ #[Value.int .u8 0, Value.int .u8 0, Value.int .u8 0, Value.int .u8 (o : Int)].toList) = nums .u8 (ptb tx o) := by simp [ptb, nums]
  have e2 : (ptb tx o).length = 0 + 32 + 4 := by simp [ptb, ht]
  rw [e] at h
  rw [e2]
  refine ⟨fun hv => ?_, h⟩
  subst hv
  have h1 := h.1
  rcases h.2 with ⟨_, h2⟩ | ⟨g, cap, cur, h2, _⟩
  · omega
  · simp at h2
set_option maxRecDepth 100000 in
set_option maxHeartbeats 1000000 in
theorem put_walk (tx : List Nat) (o : Nat) (ht : tx.length = 32) (ho : o < 256) (w : World) :
    Calls Try.prog 8 #[.agg (ptv tx o)] w (PutRes w (ptb tx o)) := by
  have bb := (Below.refl w.heap.size w).alloc (Nat.le_refl _) (.cells (ptv tx o) 25)
  have hc : (w.alloc (.cells (ptv tx o) 25)).cell? ⟨w.heap.size, 32, none⟩ = some (.int .i64 (o : Int)) := by
    rw [cell_of_row _ w.heap.size _ _ _ (0, 0) (heap_alloc_new w _)]
    simp [ptv, ht]
  have HS := hid (show Rd (w.alloc (.cells (ptv tx o) 25)) 1 (some ⟨w.heap.size, 0, none⟩) 32 32 (nums .u8 tx) from ⟨by simp [ht], Nat.le_refl _, by decide, (fun e => by cases e), w.heap.size, 0, fun _ => rfl, fun j u hu => by
    have hj : j < 32 := by
      have := (List.getElem?_eq_some_iff.1 hu).1
      rw [nums_length, ht] at this
      exact this
    rw [cell_of_row _ w.heap.size _ _ _ (0, 0) (heap_alloc_new w _), Nat.zero_add, ptv, List.getElem?_toArray, List.getElem?_append_left (by simp; omega)]
    exact hu⟩)
  have HB := hid bb
  have HC := hid hc
  clear bb
  go_enter Try.func8, Try.ntmps8
  go_wp2_with fail
  generalize w.alloc (.cells (ptv tx o) 25) = w1 at *
  have e24 : (o : Int) / 16777216 = 0 := by omega
  have e16 : (o : Int) / 65536 = 0 := by omega
  have e8 : (o : Int) / 256 = 0 := by omega
  have ew : IntKind.u8.wrap (o : Int) = (o : Int) := u8w ho
  have ew0 : IntKind.u8.wrap 0 = 0 := by decide
  have bX := Below.refl w1.heap.size w1
  go_region_held3 (fun w' => w'.cell? ⟨w.heap.size, 32, none⟩ = some (.int .i64 (o : Int)))
    (first | exact HC.out | exact (bX.cell (World.block_lt_of_cell? w1 _ HC.out)).trans HC.out | exact ((bX.alloc bX.size _).cell (World.block_lt_of_cell? w1 _ HC.out)).trans HC.out | exact ((bX.alloc bX.size _).drew.cell (World.block_lt_of_cell? w1 _ HC.out)).trans HC.out | exact (bX.drew.cell (World.block_lt_of_cell? w1 _ HC.out)).trans HC.out)
    (first
      | (refine step_cat rfl (.const (.slice none 0 0)) _ 26 rfl tyBs w1.heap.size (own_nil _ _ _ _) rfl rfl (HS.out.below ?_) (nums_oneCell _ _) (by decide) (by decide) ?_ ?_; (first | exact bX | exact bX.drew | exact bX.alloc bX.size _ | exact (bX.alloc bX.size _).drew | exact (bX.drew).alloc bX.size _); (first | exact bX.size | exact bX.drew.size | exact (bX.alloc bX.size _).size | exact (bX.alloc bX.size _).drew.size | exact ((bX.drew).alloc bX.size _).size); intro v1 w2 o2 g2 f2; have bY := (Below.refl _ _).grown g2 (Nat.le_refl _) (fun k hk => by cases hk); (first | (have lX := rd_afterN (n := 4) rfl (by decide) bY) | (have lX := rd_afterND (n := 4) rfl (by decide) bY) | skip); (have bN : Below w1.heap.size w1 w2 := by (refine Below.trans ?_ (bY.mono ?_)); (first | exact bX | exact bX.drew | exact bX.alloc bX.size _ | exact (bX.alloc bX.size _).drew | exact (bX.drew).alloc bX.size _); (first | exact bX.size | exact bX.drew.size | exact (bX.alloc bX.size _).size | exact (bX.alloc bX.size _).drew.size | exact ((bX.drew).alloc bX.size _).size)); clear bX; have bX := bN; clear bN bY f2 g2)
      | (refine step_cat rfl (.tmp 5) (.tmp 21) 26 rfl tyBs w1.heap.size (own_below o2 ?_) rfl rfl (rd_newN w2 _ _ (n := 4) rfl (by decide)) ?_ (by decide) (by decide) ?_ ?_; (first | exact Below.refl _ _ | exact (Below.refl _ _).drew | exact (Below.refl _ _).alloc (Nat.le_refl _) _ | exact ((Below.refl _ _).alloc (Nat.le_refl _) _).drew | exact ((Below.refl _ _).drew).alloc (Nat.le_refl _) _); (exact fun u hu => List.all_eq_true.1 (rfl : (List.all _ Value.oneCell') = true) u hu); (first | exact bX.size | exact bX.drew.size | exact (bX.alloc bX.size _).size | exact (bX.alloc bX.size _).drew.size | exact ((bX.drew).alloc bX.size _).size); intro v3 w3 o3 g3 f3; (have bN : Below w1.heap.size w1 w3 := Below.grown (by (first | exact bX | exact bX.drew | exact bX.alloc bX.size _ | exact (bX.alloc bX.size _).drew | exact (bX.drew).alloc bX.size _)) g3 (by (first | exact bX.size | exact bX.drew.size | exact (bX.alloc bX.size _).size | exact (bX.alloc bX.size _).drew.size | exact ((bX.drew).alloc bX.size _).size)) (fun k hk => (o2.lt k hk).1)); clear bX; have bX := bN; clear bN g3 f3)
      | (refine step_cat rfl (.tmp 5) (.tmp 21) 26 rfl tyBs w1.heap.size (own_below o2 ?_) rfl rfl lX ?_ (by decide) (by decide) ?_ ?_; (first | exact Below.refl _ _ | exact (Below.refl _ _).drew | exact (Below.refl _ _).alloc (Nat.le_refl _) _ | exact ((Below.refl _ _).alloc (Nat.le_refl _) _).drew | exact ((Below.refl _ _).drew).alloc (Nat.le_refl _) _); (exact fun u hu => List.all_eq_true.1 (rfl : (List.all _ Value.oneCell') = true) u hu); (first | exact bX.size | exact bX.drew.size | exact (bX.alloc bX.size _).size | exact (bX.alloc bX.size _).drew.size | exact ((bX.drew).alloc bX.size _).size); intro v3 w3 o3 g3 f3; (have bN : Below w1.heap.size w1 w3 := Below.grown (by (first | exact bX | exact bX.drew | exact bX.alloc bX.size _ | exact (bX.alloc bX.size _).drew | exact (bX.drew).alloc bX.size _)) g3 (by (first | exact bX.size | exact bX.drew.size | exact (bX.alloc bX.size _).size | exact (bX.alloc bX.size _).drew.size | exact ((bX.drew).alloc bX.size _).size)) (fun k hk => (o2.lt k hk).1)); clear bX; have bX := bN; clear bN g3 f3)
      | fail)
  all_goals
    have HF := hid (put_fin ht o3)
    have HBX := hid (HB.out.trans (bX.mono HB.out.size))
    clear o3 bX o2 hc e24 e16 e8 ew ew0 ht ho
    (try clear lX)
    go_wp2
    go_ret
    exact ⟨_, rfl, HF.out.1, own_mono HF.out.2 HB.out.size, HBX.out⟩
end Go.Proofs.Ytgaidleepjkldaa
