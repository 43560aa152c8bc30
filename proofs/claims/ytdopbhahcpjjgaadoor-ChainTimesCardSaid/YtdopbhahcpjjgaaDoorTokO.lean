/- Tokens: whom a secret makes known. -/
import Derived.Test.YtdopbhahcpjjgaaDoorTagA
namespace Go.Proofs.YtdopbhahcpjjgaaDoor
open Go.RowKit

/-- parts that are variables of 32 bytes each -/
theorem tagParts {W : World} {g p : Nat} {T : TypeId} {L : List (Nat × List Nat)} (hp : W.heap[p]? = some (.cells (L.map (fun q => Value.slice (some ⟨q.1, 0, none⟩) 32 32)).toArray T (0, 0))) (hpg : p ≠ g)
    (hL : ∀ q ∈ L, (∃ t, W.heap[q.1]? = some (.cells (nums .u8 q.2).toArray t (0, 0))) ∧ q.2.length = 32 ∧ (∀ d ∈ q.2, d < 256) ∧ q.1 ≠ g) (hn : L.length ≤ 1048576 := by simp) :
    ∀ w', Far g W w' → Parts w' (some ⟨p, 0, none⟩) L.length L.length (L.map fun q => ⟨some ⟨q.1, 0, none⟩, 32, q.2⟩) := by
  intro w' hf
  have hp' := heap_far hp hf hpg
  refine ⟨⟨by rw [bflat_eq]; simp, Nat.le_refl _, by unfold maxLen; omega, (fun e => by cases e), p, 0, fun _ => rfl, fun j u hu => ?_⟩, by simp, fun l hl => ?_⟩
  · rw [Nat.zero_add, cell_of_row _ p _ _ T (0, 0) hp', List.getElem?_toArray]
    rw [bflat_eq, List.map_map, List.getElem?_map] at hu
    rw [List.getElem?_map]
    cases hq : L[j]? with
    | none => rw [hq] at hu; cases hu
    | some q =>
      rw [hq] at hu
      have h32 := (hL q (List.mem_of_getElem? hq)).2.1
      simp only [Option.map_some, Function.comp_def, Option.some.injEq] at hu ⊢
      rw [← hu, h32]
  · obtain ⟨q, hq, rfl⟩ := List.mem_map.1 hl
    obtain ⟨⟨t, h1⟩, h2, h3, h4⟩ := hL q hq
    exact ⟨by rw [h2]; exact sl_arr (heap_far h1 hf h4) h2, h3, by rw [h2]; decide⟩
def nmOwner : ByteArray := ⟨#[109, 111, 110, 101, 121, 101, 114, 47, 111, 119, 110, 101, 114]⟩
def nmToken : ByteArray := ⟨#[109, 111, 110, 101, 121, 101, 114, 47, 116, 111, 107, 101, 110]⟩
theorem nmOwner_size : nmOwner.size ≤ 1048576 := by decide
theorem nmToken_size : nmToken.size ≤ 1048576 := by decide
def ownD (sec : List Nat) : List Nat := sha (tagH nmOwner ++ sec)
def tokD (sec what : List Nat) : List Nat := sha (tagH nmToken ++ (sec ++ what))
theorem ownD_ok (sec : List Nat) : (ownD sec).length = 32 ∧ ∀ d ∈ ownD sec, d < 256 := ⟨sha_len _, sha_lt _⟩
theorem tokD_ok (sec what : List Nat) : (tokD sec what).length = 32 ∧ ∀ d ∈ tokD sec what, d < 256 := ⟨sha_len _, sha_lt _⟩
def OwnRes (sec : List Nat) (w : World) (e : Ending) (w' : World) : Prop := e = .returned (hv (ownD sec)) ∧ Below w.heap.size w w'
set_option maxRecDepth 100000 in
set_option maxHeartbeats 4000000 in
theorem owner_walk (sec : List Nat) (hl : sec.length = 32) (hb : ∀ d ∈ sec, d < 256) (w : World) (ht : Tabs w) : Calls Tryd.prog 18 #[hv sec] w (OwnRes sec w) := by
  have HT := hid ht
  have A2 := fun z => alloc2p w (.cells (nums .u8 sec).toArray 27) (.cells z 27)
  have hs0 : 0 < w.heap.size := by have := World.block_lt_of_cell? w _ (ht.1 0 (by decide)); simpa using this
  have hs1 : 1 < w.heap.size := by have := World.block_lt_of_cell? w _ (ht.2 0 (by decide)); simpa using this
  have hb := hid hb
  clear ht
  unfold hv
  go_enter Tryd.func18, Tryd.ntmps18
  go_upto_region 1 with (fail)
  generalize hW : World.alloc (World.alloc w _) _ = wb
  replace A2 : ∃ z : Array Value, z.size = 32 ∧ wb.heap[w.heap.size]? = some (.cells (nums .u8 sec).toArray 27 (0, 0)) ∧ wb.heap[w.heap.size + 1]? = some (.cells z 27 (0, 0)) ∧ Below w.heap.size w wb := ⟨_, by rfl, hW ▸ (A2 _).1, hW ▸ (A2 _).2.1, hW ▸ (A2 _).2.2.2⟩
  obtain ⟨z, hz, gP, gZ, b0⟩ := A2
  have hRl : w.heap.size + 1 < wb.heap.size := (Array.getElem?_eq_some_iff.1 gZ).1
  have HTb := hid (HT.out.below b0)
  have hKv := hid gP
  have hZ := hid gZ
  have B0 := hid b0
  have hiW := hid (show (Tryd.prog.info? 27).map (·.size) = some (nums .u8 (sha (tagH nmOwner ++ flat [⟨some ⟨w.heap.size, 0, none⟩, 32, sec⟩]))).toArray.size by rw [List.size_toArray, nums_length, sha_len]; kernel_rfl)
  have hzW := hid (show z.size = (nums .u8 (sha (tagH nmOwner ++ flat [⟨some ⟨w.heap.size, 0, none⟩, 32, sec⟩]))).toArray.size by rw [hz]; simp [sha_len])
  have hoW := hid (all_oneCell_toArray (nums_oneCell .u8 (sha (tagH nmOwner ++ flat [⟨some ⟨w.heap.size, 0, none⟩, 32, sec⟩]))))
  clear gP gZ b0 hW hz
  generalize hP : w.heap.size = P at *
  generalize hR : P + 1 = R at *
  have hPR : P ≠ R := by omega
  have hR0 : R ≠ 0 := by omega
  have hR1 : R ≠ 1 := by omega
  refine wp_region_held_drew (S := fun w' => Far R wb w') (by kernel_rfl) (Far.of ((Below.refl _ _).drew)) (fun hHeld => ?_)
  try simp only [List.size_toArray, List.length_cons, List.length_nil, Nat.reduceAdd, Array.replicate_succ, Array.replicate_zero, List.push_toArray, List.nil_append, List.cons_append]
  refine wpAnyH_take (i := 1) (oi := { dst := some 4, op := Op.slice 27 (Operand.tmp 1) none none none, type := 73, pos := "token.go:27", after := #[], guard := none }) (v := ?v1001) rfl (by kernel_rfl) (by kernel_rfl) (by kernel_rfl) (fun _ _ _ h => h) (Or.inl ⟨by rfl, ?hy1001⟩) hHeld ?_
  case hy1001 => (intro w hSw; (try dsimp only at hSw); go_simp; (try with_reducible rfl))
  (try simp only [Act.put, List.setIfInBounds_toArray, List.set_cons_zero, List.set_cons_succ])
  refine wpAnyH_ready (rs := [0, 2]) (by kernel_rfl) (by simp) ?_
  refine AllReadyH.cons (o := { dst := some 3, op := Op.call { callee := Callee.value (Operand.func 25), args := #[Operand.const (Value.string { data := #[109, 111, 110, 101, 121, 101, 114, 47, 111, 119, 110, 101, 114] })], argTypes := #[9] }, type := 70, pos := "token.go:27", after := #[], guard := none }) rfl (fun K hK => ?_) ?_
  go_simp; refine (newtag_walk nmOwner _).mono ?_; rintro e wt ⟨g, cur, rfl, lg, hG, hN, bt⟩; have HG := hid hG; have HN := hid hN; have BT := hid bt; have lg' : wb.heap.size ≤ g := (by first | exact lg | exact Nat.le_trans hHeld.size lg); clear hG hN bt
  refine hK.out _ _ (hHeld.trans (Far.of BT.out)) (fun hHeld => ?_)
  clear hK K
  (try simp only [List.setIfInBounds_toArray, List.set_cons_zero])
  refine wpAnyH_ready (rs := [2]) (by kernel_rfl) (by simp) ?_
  refine AllReadyH.cons (o := { dst := some 5, op := Op.buildSlice 117 1 #[(0, Operand.tmp 4)], type := 117, pos := "token.go:27", after := #[{ on := 1, ground := Ground.data }], guard := none }) rfl (fun K hK => ?_) ?_
  go_simp; (first | refine newZ ?_ | refine newZd ?_); intro wp hp bp; have HP := hid hp; have BP := hid bp; clear hp bp
  refine hK.out _ _ (by first | exact hHeld.trans (Far.of BP.out) | exact Far.of BP.out) (fun hHeld => ?_)
  clear hK K
  (try simp only [List.setIfInBounds_toArray, List.set_cons_zero, List.set_cons_succ])
  refine wpAnyH_ready (rs := [3]) (by kernel_rfl) (by simp) ?_
  refine AllReadyH.cons (o := { dst := some 6, op := Op.call { callee := Callee.value (Operand.func 26), args := #[Operand.tmp 3, Operand.tmp 5], argTypes := #[70, 117] }, type := 27, pos := "token.go:27", after := #[{ on := 0, ground := Ground.data }, { on := 2, ground := Ground.data }, { on := 0, ground := Ground.chain }], guard := none }) rfl (fun K hK => ?_) ?_
  go_simp; refine (tsum_walk g 0 _ nmOwner cur _ 1 1 [⟨some ⟨P, 0, none⟩, 32, sec⟩] _ nmOwner_size (by first | exact HG.out | exact heap_keep HG.out BP.out) (.inl HN.out) (tagParts (L := [(P, sec)]) (by first | exact HP.out | exact heap_keep HP.out BT.out) (by first | (have h1 := (Array.getElem?_eq_some_iff.1 HG.out).1; omega) | (have h1 := (Array.getElem?_eq_some_iff.1 HP.out).1; omega)) (by intro q hq; simp only [List.mem_singleton] at hq; subst hq; exact ⟨⟨_, heap_far hKv.out hHeld hPR⟩, hl, hb.out, by simp only; omega⟩)) (by simp [flat, hl]) (by decide) (HTb.out.far hHeld hR0 hR1) (by omega) (by omega)).mono ?_; rintro e wq ⟨rfl, fq, _⟩; have FQ := hid fq; clear fq
  refine hK.out _ _ (hHeld.newer FQ.out lg') (fun hHeld => ?_)
  clear hK K
  (try simp only [List.setIfInBounds_toArray, List.set_cons_zero, List.set_cons_succ])
  refine wpAnyH_ready (rs := [4]) (by kernel_rfl) (by simp) ?_
  refine AllReadyH.cons (o := { dst := none, op := Op.store 27 (Operand.tmp 2) (Operand.tmp 6), type := 0, pos := "token.go:27", after := #[{ on := 3, ground := Ground.data }, { on := 3, ground := Ground.chain }, { on := 0, ground := Ground.phase }, { on := 1, ground := Ground.phase }, { on := 2, ground := Ground.phase }, { on := 3, ground := Ground.phase }], guard := none }) rfl (fun K hK => ?_) ?_
  rw [if_pos (by rfl)]; refine wp_store_row _ _ _ rfl R (nums .u8 (sha (tagH nmOwner ++ flat [⟨some ⟨P, 0, none⟩, 32, sec⟩]))).toArray rfl rfl _ _ (heap_far (by first | exact heap_keep (heap_keep (w := wb.drew) hZ.out BT.out) BP.out | exact heap_keep (heap_keep hZ.out BP.out) BT.out) FQ.out (by omega)) hiW.out hzW.out hoW.out ?_
  refine hK.out _ _ (hHeld.trans (far_row _ R _)) (fun hHeld => ?_)
  clear hK K
  (try simp only [List.setIfInBounds_toArray, List.set_cons_zero, List.set_cons_succ])
  refine wpAnyH_done (by kernel_rfl) ?_ _
  rotate_left
  exact AllReadyH.nil
  exact AllReadyH.nil
  exact AllReadyH.nil
  refine AllReadyH.cons (o := { dst := some 5, op := Op.buildSlice 117 1 #[(0, Operand.tmp 4)], type := 117, pos := "token.go:27", after := #[{ on := 1, ground := Ground.data }], guard := none }) rfl (fun K hK => ?_) ?_
  go_simp; (first | refine newZ ?_ | refine newZd ?_); intro wp hp bp; have HP := hid hp; have BP := hid bp; clear hp bp
  refine hK.out _ _ (by first | exact hHeld.trans (Far.of BP.out) | exact Far.of BP.out) (fun hHeld => ?_)
  clear hK K
  (try simp only [List.setIfInBounds_toArray, List.set_cons_zero, List.set_cons_succ])
  refine wpAnyH_ready (rs := [0]) (by kernel_rfl) (by simp) ?_
  refine AllReadyH.cons (o := { dst := some 3, op := Op.call { callee := Callee.value (Operand.func 25), args := #[Operand.const (Value.string { data := #[109, 111, 110, 101, 121, 101, 114, 47, 111, 119, 110, 101, 114] })], argTypes := #[9] }, type := 70, pos := "token.go:27", after := #[], guard := none }) rfl (fun K hK => ?_) ?_
  go_simp; refine (newtag_walk nmOwner _).mono ?_; rintro e wt ⟨g, cur, rfl, lg, hG, hN, bt⟩; have HG := hid hG; have HN := hid hN; have BT := hid bt; have lg' : wb.heap.size ≤ g := (by first | exact lg | exact Nat.le_trans hHeld.size lg); clear hG hN bt
  refine hK.out _ _ (hHeld.trans (Far.of BT.out)) (fun hHeld => ?_)
  clear hK K
  (try simp only [List.setIfInBounds_toArray, List.set_cons_zero])
  refine wpAnyH_ready (rs := [3]) (by kernel_rfl) (by simp) ?_
  refine AllReadyH.cons (o := { dst := some 6, op := Op.call { callee := Callee.value (Operand.func 26), args := #[Operand.tmp 3, Operand.tmp 5], argTypes := #[70, 117] }, type := 27, pos := "token.go:27", after := #[{ on := 0, ground := Ground.data }, { on := 2, ground := Ground.data }, { on := 0, ground := Ground.chain }], guard := none }) rfl (fun K hK => ?_) ?_
  go_simp; refine (tsum_walk g 0 _ nmOwner cur _ 1 1 [⟨some ⟨P, 0, none⟩, 32, sec⟩] _ nmOwner_size (by first | exact HG.out | exact heap_keep HG.out BP.out) (.inl HN.out) (tagParts (L := [(P, sec)]) (by first | exact HP.out | exact heap_keep HP.out BT.out) (by first | (have h1 := (Array.getElem?_eq_some_iff.1 HG.out).1; omega) | (have h1 := (Array.getElem?_eq_some_iff.1 HP.out).1; omega)) (by intro q hq; simp only [List.mem_singleton] at hq; subst hq; exact ⟨⟨_, heap_far hKv.out hHeld hPR⟩, hl, hb.out, by simp only; omega⟩)) (by simp [flat, hl]) (by decide) (HTb.out.far hHeld hR0 hR1) (by omega) (by omega)).mono ?_; rintro e wq ⟨rfl, fq, _⟩; have FQ := hid fq; clear fq
  refine hK.out _ _ (hHeld.newer FQ.out lg') (fun hHeld => ?_)
  clear hK K
  (try simp only [List.setIfInBounds_toArray, List.set_cons_zero, List.set_cons_succ])
  refine wpAnyH_ready (rs := [4]) (by kernel_rfl) (by simp) ?_
  refine AllReadyH.cons (o := { dst := none, op := Op.store 27 (Operand.tmp 2) (Operand.tmp 6), type := 0, pos := "token.go:27", after := #[{ on := 3, ground := Ground.data }, { on := 3, ground := Ground.chain }, { on := 0, ground := Ground.phase }, { on := 1, ground := Ground.phase }, { on := 2, ground := Ground.phase }, { on := 3, ground := Ground.phase }], guard := none }) rfl (fun K hK => ?_) ?_
  rw [if_pos (by rfl)]; refine wp_store_row _ _ _ rfl R (nums .u8 (sha (tagH nmOwner ++ flat [⟨some ⟨P, 0, none⟩, 32, sec⟩]))).toArray rfl rfl _ _ (heap_far (by first | exact heap_keep (heap_keep (w := wb.drew) hZ.out BT.out) BP.out | exact heap_keep (heap_keep hZ.out BP.out) BT.out) FQ.out (by omega)) hiW.out hzW.out hoW.out ?_
  refine hK.out _ _ (hHeld.trans (far_row _ R _)) (fun hHeld => ?_)
  clear hK K
  (try simp only [List.setIfInBounds_toArray, List.set_cons_zero, List.set_cons_succ])
  refine wpAnyH_done (by kernel_rfl) ?_ _
  rotate_left
  exact AllReadyH.nil
  exact AllReadyH.nil
  exact AllReadyH.nil
  exact AllReadyH.nil
  all_goals
    have hz6 := hid (setRow_heap wq R _ (nums .u8 (sha (tagH nmOwner ++ flat [⟨some ⟨P, 0, none⟩, 32, sec⟩]))).toArray _ _ (heap_far (by first | exact heap_keep (heap_keep (w := wb.drew) hZ.out BT.out) BP.out | exact heap_keep (heap_keep hZ.out BP.out) BT.out) FQ.out (by omega)))
    have hb6 := hid (B0.out.trans (hHeld.below (show P ≤ R by omega) (by have := hHeld.size; omega)))
    clear hHeld
    go_wp2
    refine bodyPost_ret (results_cell_row rfl _ _ R _ (nums .u8 (sha (tagH nmOwner ++ flat [⟨some ⟨P, 0, none⟩, 32, sec⟩]))).toArray _ _ rfl hz6.out Tryd.underlying27 rfl hiW.out) rfl ?_
    exact ⟨by simp [hv, ownD, flat], hP ▸ hb6.out⟩
end Go.Proofs.YtdopbhahcpjjgaaDoor
