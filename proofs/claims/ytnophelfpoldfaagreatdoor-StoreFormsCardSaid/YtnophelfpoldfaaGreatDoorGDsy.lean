/- A disk's settle and Sync. -/
import Derived.Test.YtnophelfpoldfaaGreatDoorGLit
namespace Go.Proofs.YtnophelfpoldfaaGreatDoor
open Go.RowKit

theorem zv_of {t : TypeId} {Z : Array Value} (h : (Tryz.prog.info? t).map (·.zero) = some (some (.agg Z))) (w : World) : (zeroValue t).run Tryz.prog w = .ok (.agg Z) w := by
  cases hi : Tryz.prog.info? t with
  | none => rw [hi] at h; cases h
  | some i =>
    rw [hi] at h
    simp only [Option.map_some, Option.some.injEq] at h
    simp [zeroValue, typeInfo, hi, h]
def layQ : List (List Nat) → List QE → List (List Nat)
  | C, [] => C
  | C, p :: r => layQ (C.set p.pos p.bs) r
theorem layQ_len : ∀ (Q : List QE) (C : List (List Nat)), (layQ C Q).length = C.length
  | [], _ => rfl
  | _ :: r, _ => (layQ_len r _).trans List.length_set
theorem layQ_snoc : ∀ (C : List (List Nat)) (Q : List QE) (e : QE), layQ C (Q ++ [e]) = (layQ C Q).set e.pos e.bs
  | _, [], _ => rfl
  | C, p :: r, e => layQ_snoc (C.set p.pos p.bs) r e
theorem setO {K : Act → World → Prop} {A : Act} {W : World} {g i : Nat} {v : Value} (h : ∀ W', Hid (W' = W.setCell ⟨g, i, none⟩ v) → K A W') : K A (W.setCell ⟨g, i, none⟩ v) := h _ (hid rfl)
theorem own_blockG {w : World} {B : Nat} {e : TypeId} {size n c : Nat} {aa : Option Addr} {xs : List Value} (h : w.ownsRow B e size (.slice aa n c) n xs) (hn : 0 < n) : ∃ g, aa = some ⟨g, 0, none⟩ := by
  rcases h.2 with ⟨hv, _⟩ | ⟨g', cap', cur, hv, _⟩
  · simp only [Value.slice.injEq] at hv
    omega
  · simp only [Value.slice.injEq] at hv
    exact ⟨g', hv.1⟩
theorem own_obj {w : World} {B : Nat} {e : TypeId} {size n : Nat} {v : Value} {xs : List Value} (h : w.ownsRow B e size v n xs) {g : Nat} (hg : v.ownBlock = some g) : ∃ cur, w.heap[g]? = some (.cells cur e (0, 0)) := by
  rcases h.2 with ⟨hv, _⟩ | ⟨g', cap, cu, hv, _, hg', _⟩
  · subst hv; cases hg
  · subst hv
    cases hg
    exact ⟨cu, hg'⟩
theorem qe_at {Q : List QE} {i : Nat} {e : QE} (h : Q[i]? = some e) (k : Nat) (hk : k < 2) : (Q.flatMap QE.cells)[i * 2 + k]? = e.cells[k]? := by
  induction Q generalizing i with
  | nil => simp at h
  | cons p r ih =>
    cases i with
    | zero =>
      simp only [List.getElem?_cons_zero, Option.some.injEq] at h
      subst h
      rw [Nat.zero_mul, Nat.zero_add, List.flatMap_cons, List.getElem?_append_left (by simpa [QE.cells] using hk)]
    | succ i =>
      rw [List.getElem?_cons_succ] at h
      rw [List.flatMap_cons, List.getElem?_append_right (by simp [QE.cells]; omega), ← ih h]
      congr 1
      simp [QE.cells]; omega
/-- one sector is laid -/
theorem Secs.set {w w' : World} {S : Nat → Prop} {vs : List Value} {C : List (List Nat)} (h : Secs w vs C) (k : Keep S w w') (hn : ∀ i, i < w.heap.size → S i → NoBy w i) {p : Nat} {v : Value} {bs : List Nat} (hv : ByA w' v bs) (hb : bs.length = 64) : Secs w' (vs.set p v) (C.set p bs) := by
  refine ⟨by rw [List.length_set, List.length_set, h.1], fun i u xs hu hx => ?_⟩
  by_cases hip : i = p
  · subst hip
    have h1 := (List.getElem?_eq_some_iff.1 hu).1
    have h2 := (List.getElem?_eq_some_iff.1 hx).1
    rw [List.length_set] at h1 h2
    rw [List.getElem?_set_self h1] at hu
    rw [List.getElem?_set_self h2] at hx
    cases hu
    cases hx
    exact ⟨hv, hb⟩
  · rw [List.getElem?_set_ne (fun e => hip e.symm)] at hu hx
    exact ⟨(h.2 i u xs hu hx).1.keep k hn, (h.2 i u xs hu hx).2⟩
structure Settled' (w : World) (db B : Nat) (sv : Value) (C : List (List Nat)) (Q : List QE) (w' : World) : Prop where
  dsk : DiskAt w' db B sv (.slice none 0 0) (layQ C Q) []
  keep : Keep (fun i => i = db ∨ sv.ownBlock = some i) w w'
/-- the queue is given up -/
theorem DiskAt.drop {w : World} {db B : Nat} {sv qv : Value} {C : List (List Nat)} {Q : List QE} (h : DiskAt w db B sv qv C Q) : DiskAt (w.setCell ⟨db, 1, none⟩ (.slice none 0 0)) db B sv (.slice none 0 0) C [] ∧ Far db w (w.setCell ⟨db, 1, none⟩ (.slice none 0 0)) := by
  have f : Far db w (w.setCell ⟨db, 1, none⟩ (.slice none 0 0)) := Far.set _
  obtain ⟨vs, ho, hv⟩ := h.sure
  have k := Keep.far' f
  refine ⟨⟨heap_set (L := [sv, qv, .int .i64 0, .bool false]) _ h.cell, ⟨vs, k.own ho (fun g hg e => by have := (ho.lt g hg).1; have := h.lt.1; omega), hv.keep k (fun i _ e => by rw [e]; exact h.noBy)⟩, ⟨rfl, .inl ⟨rfl, rfl⟩⟩, (fun e he => absurd he List.not_mem_nil), h.few, h.lt.1, Nat.le_trans h.lt.2 k.size⟩, f⟩
def SetR (w : World) (db B : Nat) (sv qv : Value) (C : List (List Nat)) (Q : List QE) (i : Nat) (wr : World) : Prop := DiskAt wr db B sv qv (layQ C (Q.take i)) Q ∧ Keep (fun j => j = db ∨ sv.ownBlock = some j) w wr
set_option maxRecDepth 100000 in
set_option maxHeartbeats 8000000 in
theorem settle_walk {w : World} {db B : Nat} {sv qv : Value} {C : List (List Nat)} {Q : List QE} (h : DiskAt w db B sv qv C Q) (hQ : Q.length < 4294967296) :
    Calls Tryz.prog 64 #[.pointer (some ⟨db, 0, none⟩), .int .i64 (Q.length : Int), .int .i64 0] w fun e w' => e = .returned (.tuple #[]) ∧ Settled' w db B sv C Q w' := by
  have H := hid h
  have HQ := hid hQ
  have c1 := h.c1
  obtain ⟨qa, qc, rfl⟩ := h.qv_eq
  obtain ⟨sa, sc, rfl⟩ := h.sv_eq
  have m1 : max (0 : Int) (Q.length : Int) = (Q.length : Int) := by omega
  have unW := Tryz.underlying139
  have zW' : ∀ w : World, (zeroValue 139).run Tryz.prog w = .ok (.agg zW) w := zv_of (by kernel_rfl)
  clear h hQ
  go_enter Tryz.func64, Tryz.ntmps64
  by_cases hq0 : Q.length = 0
  case pos =>
    obtain rfl : Q = [] := List.eq_nil_of_length_eq_zero hq0
    have D := hid (H.out.drop)
    clear hq0 m1
    go_upto_region 2 with (fail)
    go_loopw [16] (fun x16 wr => x16 = .int .i64 0 ∧ wr = w) (fun _ _ => 0)
    case atStart => exact ⟨rfl, rfl⟩
    case round =>
      obtain ⟨rfl, rfl⟩ := hrel
      have c9 := H.out.c1
      have z9 : wr.frozen? ⟨db, 1, none⟩ = false := frozen_of_row _ _ _ _ _ H.out.cell
      go_wp2_with (fail)
      go_end0
      exact ⟨rfl, D.out.1, (Keep.far D.out.2 (.inl rfl))⟩
  have q1 : (0 : Int) < (Q.length : Int) := by omega
  have q2 : decide ((0 : Int) < (Q.length : Int)) = true := decide_eq_true q1
  have q3 : 0 < Q.length := by omega
  go_upto_region 2 with (fail)
  go_loopw [16] (fun x16 wr => ∃ i : Nat, i ≤ Q.length ∧ x16 = .int .i64 (i : Int) ∧ SetR w db B (.slice sa C.length sc) (.slice qa Q.length qc) C Q i wr) (fun x16 _ => Q.length - (intOf x16).toNat)
  case atStart => exact ⟨0, by omega, rfl, by simpa [layQ] using H.out, Keep.refl _ _⟩
  case round =>
    obtain ⟨i, hi, rfl, hd, hk⟩ := hrel
    have HD := hid hd
    have HK := hid hk
    clear hd hk
    by_cases hlt : i < Q.length
    case neg =>
      obtain rfl : i = Q.length := by omega
      have hd' := HD.out
      rw [List.take_of_length_le (Nat.le_refl _)] at hd'
      have HE := hid hd'
      have D := hid (hd'.drop)
      have t1 : decide (Q.length < Q.length) = false := decide_eq_false (by omega)
      have c9 := hd'.c1
      have z9 : wr.frozen? ⟨db, 1, none⟩ = false := frozen_of_row _ _ _ _ _ hd'.cell
      clear hd' hlt hi c1
      go_wp2_with (fail)
      go_end0
      exact ⟨rfl, D.out.1, HK.out.trans (Keep.far D.out.2 (.inl rfl))⟩
    have t1 : decide (i < Q.length) = true := decide_eq_true hlt
    have t2 : decide ((i : Int) < (Q.length : Int)) = true := decide_eq_true (by omega)
    obtain ⟨qg, rfl⟩ := own_blockG HD.out.queue (by omega)
    obtain ⟨⟨ep, ev, eb⟩, he⟩ : ∃ e, Q[i]? = some e := ⟨Q[i], List.getElem?_eq_getElem hlt⟩
    obtain ⟨va, vn, vc, rfl, _⟩ : ∃ a n c, ev = .slice a n c ∧ True := by obtain ⟨a, n, c, h, _⟩ := (HD.out.qok _ (List.mem_of_getElem? he)).2.1; exact ⟨a, n, c, h, trivial⟩
    have HE := hid he
    have eok := hid (HD.out.qok _ (List.mem_of_getElem? he))
    have ql : (Q.flatMap QE.cells).length = Q.length * 2 := by have := HD.out.queue.1; omega
    have row : wr.rangeAt qg (i * 2) (QE.mk ep (.slice va vn vc) eb).cells := fun k v hk => by
      have k2 : k < 2 := by have := (List.getElem?_eq_some_iff.1 hk).1; simpa [QE.cells] using this
      rw [HD.out.queue.cellAt (i * 2 + k) (by omega), qe_at he k k2]
      exact hk
    have fil := hid (show (Tryz.prog.info? 139).map (·.size) = some (QE.mk ep (.slice va vn vc) eb).cells.length by kernel_rfl)
    have fia := hid (show (Tryz.prog.info? 139).map (·.size) = some (QE.mk ep (.slice va vn vc) eb).cells.toArray.size by kernel_rfl)
    have fiz := hid (show zW.size = (QE.mk ep (.slice va vn vc) eb).cells.toArray.size by rfl)
    have fio := hid (show (QE.mk ep (.slice va vn vc) eb).cells.toArray.all (·.oneCell') = true by kernel_rfl)
    have LT := hid hlt
    clear he ql hi hlt c1
    go_upto_region 4 with (first | with_reducible refine wpList_ld qg (i * 2) (QE.mk ep (.slice va vn vc) eb).cells row unW fil rfl rfl ?_ | with_reducible refine wpList_sr wr.heap.size (QE.mk ep (.slice va vn vc) eb).cells.toArray _ zW fia fiz fio rfl rfl (heap_alloc_new wr _) ?_)
    have LD := laid wr zW (QE.mk ep (.slice va vn vc) eb).cells.toArray 139
    generalize World.setRow (wr.alloc (.cells zW 139)) wr.heap.size (QE.mk ep (.slice va vn vc) eb).cells.toArray = w7 at LD ⊢
    have HV := hid LD.1
    have B7 := hid LD.2
    have D7 := hid (HD.out.below LD.2)
    obtain ⟨V, hV⟩ : ∃ V, V = wr.heap.size := ⟨_, rfl⟩
    rw [← hV] at HV ⊢
    have VW := hid hV
    have K7 := hid (HK.out.trans (Keep.of LD.2))
    clear LD hV row fil fia fiz fio t1 HD HK
    dsimp only [Act.put]
    obtain ⟨vs, ho, hsec⟩ := D7.out.sure
    rw [layQ_len] at ho
    have hpl : ep < C.length := by have := eok.out.1; rwa [layQ_len] at this
    obtain ⟨sg, rfl⟩ := own_blockG ho (by omega)
    have HO := hid ho
    have HSEC := hid hsec
    have e0 : w7.cell? ⟨db, 0, none⟩ = some (.slice (some ⟨sg, 0, none⟩) C.length sc) := D7.out.c0
    have e1 : w7.cell? ⟨V, 0, none⟩ = some (.int .i64 (ep : Int)) := gen_cell (j := 0) (row_range HV.out) rfl
    have e2 : w7.cell? ⟨V, 1, none⟩ = some (.slice va vn vc) := gen_cell (j := 1) (row_range HV.out) rfl
    have e3 : w7.cell? ⟨sg, ep, none⟩ = vs[ep]? := by have := ho.cellAt ep (by omega); simpa using this
    obtain ⟨old, e3'⟩ : ∃ old, vs[ep]? = some old := ⟨_, List.getElem?_eq_getElem (by have := hsec.1; rw [this, layQ_len]; exact hpl)⟩
    rw [e3'] at e3
    have z3 := ho.frozenAt ep
    have NV : ¬ (V = sg) := fun h => by
      obtain ⟨cur, hc⟩ := own_obj ho rfl
      rw [← h, HV.out] at hc
      simp only [Option.some.injEq, Obj.cells.injEq] at hc
      exact absurd hc.2.1 (by decide)
    have ND : ¬ (db = sg) := fun h => by have := (ho.lt sg rfl).1; have := D7.out.lt.1; omega
    have PL := hid hpl
    clear ho hsec e3'
    go_upto_region 5 with (fail)
    refine wp_region_held_drew (S := fun w' => w'.cell? ⟨db, 0, none⟩ = some (.slice (some ⟨sg, 0, none⟩) C.length sc) ∧ w'.cell? ⟨V, 0, none⟩ = some (.int .i64 (ep : Int)) ∧ w'.cell? ⟨V, 1, none⟩ = some (.slice va vn vc)) (by kernel_rfl) (⟨cell_keep (Below.refl _ _).drew e0, cell_keep (Below.refl _ _).drew e1, cell_keep (Below.refl _ _).drew e2⟩) (fun hHeld => ?_)
    try simp only [List.size_toArray, List.length_cons, List.length_nil, Nat.reduceAdd, Array.replicate_succ, Array.replicate_zero, List.push_toArray, List.nil_append, List.cons_append]
    refine wpAnyH_take (i := 0) (oi := { dst := some 25, op := Op.move (Operand.tmp 0), type := 24, pos := "disk.go:90", after := #[], guard := none }) (v := ?v1001) rfl (by kernel_rfl) (by kernel_rfl) (by kernel_rfl) (fun _ _ _ h => h) (Or.inl ⟨by rfl, ?hy1001⟩) hHeld ?_
    case hy1001 => (intro w hSw; (try dsimp only at hSw); go_simp; (try with_reducible rfl))
    (try simp only [Act.put, List.setIfInBounds_toArray, List.set_cons_zero, List.set_cons_succ])
    refine wpAnyH_take (i := 1) (oi := { dst := some 26, op := Op.nilCheck (Operand.tmp 25), type := 0, pos := "disk.go:90", after := #[{ on := 0, ground := Ground.data }], guard := none }) (v := ?v1002) rfl (by kernel_rfl) (by kernel_rfl) (by kernel_rfl) (fun _ _ _ h => h) (Or.inl ⟨by rfl, ?hy1002⟩) hHeld ?_
    case hy1002 => (intro w hSw; (try dsimp only at hSw); go_simp; (try with_reducible rfl))
    (try simp only [Act.put, List.setIfInBounds_toArray, List.set_cons_zero, List.set_cons_succ])
    refine wpAnyH_take (i := 2) (oi := { dst := some 27, op := Op.fieldAddr 57 (Operand.tmp 26) 0, type := 0, pos := "disk.go:90", after := #[{ on := 1, ground := Ground.data }], guard := none }) (v := ?v1003) rfl (by kernel_rfl) (by kernel_rfl) (by kernel_rfl) (fun _ _ _ h => h) (Or.inl ⟨by rfl, ?hy1003⟩) hHeld ?_
    case hy1003 => (intro w hSw; (try dsimp only at hSw); go_simp; (try with_reducible rfl))
    (try simp only [Act.put, List.setIfInBounds_toArray, List.set_cons_zero, List.set_cons_succ])
    refine wpAnyH_take (i := 3) (oi := { dst := some 28, op := Op.load 39 (Operand.tmp 27), type := 39, pos := "disk.go:90", after := #[{ on := 2, ground := Ground.data }], guard := none }) (v := (.slice (some ⟨sg, 0, none⟩) C.length sc)) rfl (by kernel_rfl) (by kernel_rfl) (by kernel_rfl) (fun _ _ _ h => h) (Or.inl ⟨by rfl, fun w h => by have c9 := h.1; go_simp⟩) hHeld ?_
    (try simp only [Act.put, List.setIfInBounds_toArray, List.set_cons_zero, List.set_cons_succ])
    refine wpAnyH_take (i := 4) (oi := { dst := some 29, op := Op.fieldAddr 139 (Operand.tmp 7) 0, type := 0, pos := "disk.go:90", after := #[], guard := none }) (v := ?v1004) rfl (by kernel_rfl) (by kernel_rfl) (by kernel_rfl) (fun _ _ _ h => h) (Or.inl ⟨by rfl, ?hy1004⟩) hHeld ?_
    case hy1004 => (intro w hSw; (try dsimp only at hSw); go_simp; (try with_reducible rfl))
    (try simp only [Act.put, List.setIfInBounds_toArray, List.set_cons_zero, List.set_cons_succ])
    refine wpAnyH_take (i := 5) (oi := { dst := some 30, op := Op.load 3 (Operand.tmp 29), type := 3, pos := "disk.go:90", after := #[{ on := 4, ground := Ground.data }], guard := none }) (v := (.int .i64 (ep : Int))) rfl (by kernel_rfl) (by kernel_rfl) (by kernel_rfl) (fun _ _ _ h => h) (Or.inl ⟨by rfl, fun w h => by have c9 := h.2.1; go_simp⟩) hHeld ?_
    (try simp only [Act.put, List.setIfInBounds_toArray, List.set_cons_zero, List.set_cons_succ])
    refine wpAnyH_take (i := 6) (oi := { dst := some 31, op := Op.fieldAddr 139 (Operand.tmp 7) 1, type := 0, pos := "disk.go:90", after := #[], guard := none }) (v := ?v1005) rfl (by kernel_rfl) (by kernel_rfl) (by kernel_rfl) (fun _ _ _ h => h) (Or.inl ⟨by rfl, ?hy1005⟩) hHeld ?_
    case hy1005 => (intro w hSw; (try dsimp only at hSw); go_simp; (try with_reducible rfl))
    (try simp only [Act.put, List.setIfInBounds_toArray, List.set_cons_zero, List.set_cons_succ])
    refine wpAnyH_take (i := 7) (oi := { dst := some 32, op := Op.load 22 (Operand.tmp 31), type := 22, pos := "disk.go:90", after := #[{ on := 6, ground := Ground.data }], guard := none }) (v := (.slice va vn vc)) rfl (by kernel_rfl) (by kernel_rfl) (by kernel_rfl) (fun _ _ _ h => h) (Or.inl ⟨by rfl, fun w h => by have c9 := h.2.2; go_simp⟩) hHeld ?_
    (try simp only [Act.put, List.setIfInBounds_toArray, List.set_cons_zero, List.set_cons_succ])
    refine wpAnyH_take (i := 8) (oi := { dst := some 33, op := Op.indexAddr 39 (Operand.tmp 28) (Operand.tmp 30), type := 0, pos := "disk.go:90", after := #[{ on := 3, ground := Ground.data }, { on := 5, ground := Ground.data }, { on := 0, ground := Ground.phase }, { on := 1, ground := Ground.phase }, { on := 2, ground := Ground.phase }, { on := 3, ground := Ground.phase }, { on := 4, ground := Ground.phase }, { on := 5, ground := Ground.phase }, { on := 6, ground := Ground.phase }, { on := 7, ground := Ground.phase }], guard := none }) (v := ?v1006) rfl (by kernel_rfl) (by kernel_rfl) (by kernel_rfl) (fun _ _ _ h => h) (Or.inl ⟨by rfl, ?hy1006⟩) hHeld ?_
    case hy1006 => (intro w hSw; (try dsimp only at hSw); go_simp; (try with_reducible rfl))
    (try simp only [Act.put, List.setIfInBounds_toArray, List.set_cons_zero, List.set_cons_succ])
    refine wpAnyH_ready (rs := [9]) (by kernel_rfl) (by simp) ?_
    refine AllReadyH.cons (o := { dst := none, op := Op.store 22 (Operand.tmp 33) (Operand.tmp 32), type := 0, pos := "disk.go:90", after := #[{ on := 8, ground := Ground.data }, { on := 7, ground := Ground.data }, { on := 0, ground := Ground.phase }, { on := 1, ground := Ground.phase }, { on := 2, ground := Ground.phase }, { on := 3, ground := Ground.phase }, { on := 4, ground := Ground.phase }, { on := 5, ground := Ground.phase }, { on := 6, ground := Ground.phase }, { on := 7, ground := Ground.phase }], guard := none }) rfl (fun K hK => ?_) ?_
    have c9 : w7.drew.cell? ⟨sg, ep, none⟩ = some old := e3; have z9 : w7.drew.frozen? ⟨sg, ep, none⟩ = false := z3; go_simp; obtain ⟨w8, h8'⟩ : ∃ w8, w8 = (w7.setCell ⟨sg, ep, none⟩ (.slice va vn vc)).drew := ⟨_, rfl⟩; rw [← h8']; have h8 := hid h8'; have F8 := hid (show Far sg w7 w8 from by rw [h8']; exact (Far.set _).trans (Far.of (Below.refl _ _).drew)); clear h8'
    refine hK.out _ _ (⟨(Keep.far' F8.out).cell e0 ND, (Keep.far' F8.out).cell e1 NV, (Keep.far' F8.out).cell e2 NV⟩) (fun hHeld => ?_)
    clear hK K
    (try simp only [List.setIfInBounds_toArray, List.set_cons_zero, List.set_cons_succ])
    refine wpAnyH_done (by kernel_rfl) ?_ _
    rotate_left
    exact AllReadyH.nil
    all_goals
      have K8 := Keep.far' F8.out
      have own8 : w8.ownsRow B 22 1 (.slice (some ⟨sg, 0, none⟩) C.length sc) C.length (vs.set ep (.slice va vn vc)) := by
        have o := (HO.out.stored ep (.slice va vn vc)).1
        rw [h8.out]
        exact (Keep.of (S := fun _ => False) (Below.refl _ (w7.setCell ⟨sg, ep, none⟩ (.slice va vn vc))).drew).own o (fun _ _ h => h)
      have D8 := hid (show SetR w db B (.slice (some ⟨sg, 0, none⟩) C.length sc) (.slice (some ⟨qg, 0, none⟩) Q.length qc) C Q (i + 1) w8 from by
        have nb : ∀ j, j < w7.heap.size → j = sg → NoBy w7 j := fun j _ e => by rw [e]; exact D7.out.noByS rfl
        have ev := eok.out
        have et : Q.take (i + 1) = Q.take i ++ [QE.mk ep (.slice va vn vc) eb] := by rw [List.take_add_one, HE.out]; rfl
        refine ⟨⟨K8.heap D7.out.cell ND, ⟨vs.set ep (.slice va vn vc), ?_, ?_⟩, K8.own D7.out.queue (fun g hg e => ?_), fun q hq => ?_, ?_, D7.out.lt.1, Nat.le_trans D7.out.lt.2 K8.size⟩, ?_⟩
        · rw [layQ_len]; exact own8
        · rw [et, layQ_snoc]
          exact HSEC.out.set K8 nb ((ev.2.1.below B7.out).keep K8 nb) ev.2.2
        · rw [e] at hg
          exact own_ne D7.out.queue HO.out (by decide) hg rfl
        · have := (D7.out.qok q hq).keep K8 nb
          rw [layQ_len] at this ⊢
          exact this
        · rw [layQ_len]; have := D7.out.few; rwa [layQ_len] at this
        · exact K7.out.trans (K8.mono (fun j hj => .inr (by rw [hj]; rfl))))
      have i32 : i < 4294967296 := by have := LT.out; have := HQ.out; omega
      clear F8 K8 own8 h8 hHeld e0 e1 e2 e3 z3 NV ND HV K7
      go_wp2_with (fail)
      go_roundw
      case rel => exact ⟨i + 1, by have := LT.out; omega, by go_num, D8.out⟩
      case measure => simp [intOf]; have := LT.out; omega
end Go.Proofs.YtnophelfpoldfaaGreatDoor

/- A disk's Sync; a new disk. -/
namespace Go.Proofs.YtnophelfpoldfaaGreatDoor
open Go.RowKit

theorem dsync_walk {w : World} {db B : Nat} {sv qv : Value} {C : List (List Nat)} {Q : List QE} (h : DiskAt w db B sv qv C Q) (hQ : Q.length < 4294967296) :
    Calls Tryz.prog 45 #[.pointer (some ⟨db, 0, none⟩)] w fun e w' => e = .returned (.int .i64 0) ∧ Settled' w db B sv C Q w' := by
  have H := hid h
  have HQ := hid hQ
  have c1 := h.c1
  have c3 := h.c3
  obtain ⟨qa, qc, rfl⟩ := h.qv_eq
  clear h hQ
  go_enter Tryz.func45, Tryz.ntmps45
  go_wp2_with (fail)
  refine (dstep_walk H.out).mono ?_
  rintro e w1 ⟨rfl, rfl⟩
  go_wp2_with (fail)
  refine (settle_walk H.out HQ.out).mono ?_
  rintro e w2 ⟨rfl, s2⟩
  go_wp2_with (fail)
  go_ret
  exact ⟨rfl, s2⟩
end Go.Proofs.YtnophelfpoldfaaGreatDoor
