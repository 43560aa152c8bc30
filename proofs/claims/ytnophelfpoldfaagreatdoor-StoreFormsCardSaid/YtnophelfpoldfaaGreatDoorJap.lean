/- The journal's Append. -/
import Derived.Test.YtnophelfpoldfaaGreatDoorJld
import Derived.Test.YtnophelfpoldfaaGreatDoorJpl
namespace Go.Proofs.YtnophelfpoldfaaGreatDoor
open Go.RowKit

def Sep (db : Nat) (sd : Value) (Bj : Nat) : Prop := db < Bj ∧ ∀ g, sd.ownBlock = some g → g < Bj
def JNew (w : World) (v v' : Value) : Prop := v'.ownBlock = v.ownBlock ∨ ∀ g, v'.ownBlock = some g → w.heap.size ≤ g
structure AppOk (w : World) (jb db Bj Bd half next turn : Nat) (chk st : List Nat) (rv : Value) (rs : List (List Nat)) (b : List Nat) (sd : Value) (C : List (List Nat)) (m : Nat) (w' : World) : Prop where
  ex : ∃ rv', JourAt w' jb db Bj half (next + m) turn (recH chk b) st rv' (rs ++ [b]) ∧ JNew w rv rv'
  dsk : DiskAt w' db Bd sd (.slice none 0 0) (layB C (half * (C.length / 2) + next) (recB chk b) m) []
  keep : Keep (fun i => i = db ∨ sd.ownBlock = some i ∨ i = jb ∨ rv.ownBlock = some i) w w'
def AppRes (w : World) (jb db Bj Bd half next turn : Nat) (chk st : List Nat) (rv : Value) (rs : List (List Nat)) (b : List Nat) (sd : Value) (C : List (List Nat)) (m : Nat) (e : Ending) (w' : World) : Prop :=
  if next + m ≤ C.length / 2 then e = .returned (.int .i64 0) ∧ AppOk w jb db Bj Bd half next turn chk st rv rs b sd C m w' else e = .returned (.int .i64 41) ∧ Below w.heap.size w w'
theorem recB_lt (ah b : List Nat) (hb : ∀ d ∈ b, d < 256) : ∀ d ∈ recB ah b, d < 256 := by
  intro d hd
  rw [recB_form] at hd
  simp only [List.mem_append] at hd
  rcases hd with h | h | h | h
  · simp only [be4, List.mem_cons, List.not_mem_nil, or_false] at h
    rcases h with rfl | rfl | rfl | rfl <;> exact Nat.mod_lt _ (by decide)
  · exact (recH_ok _ _).2 d h
  · exact hb d h
  · rw [List.eq_of_mem_replicate h]; decide
theorem genW {P : Program} {code : Code} {Q : Exit → Act → World → Prop} {a : Act} {w : World} {n : Nat} (h : ∀ wz, Hid (Below w.heap.size w wz) → code.wp P Q a wz) : code.wp P Q a (w.drewN n) := h _ (hid (below_drewN (Below.refl _ _) _))
theorem japp_long {w : World} {jb db Bj half next turn : Nat} {chk st : List Nat} {rv : Value} {rs : List (List Nat)} (j : JourAt w jb db Bj half next turn chk st rv rs) (a : Option Addr) (n c : Nat) (hn : 65536 < n) :
    Calls Tryz.prog 10 #[.pointer (some ⟨jb, 0, none⟩), .slice a n c] w fun e w' => e = .returned (.int .i64 3) ∧ w = w' := by
  obtain ⟨sv, hj, _⟩ := j.ex
  have c38 := hj.c38
  have t1 : decide ((65536 : Int) < (n : Int)) = true := decide_eq_true (by omega)
  have t2 : decide (65536 < n) = true := decide_eq_true hn
  clear j hj hn
  go_enter Tryz.func10, Tryz.ntmps10
  go_wp2
  go_ret
  exact ⟨rfl, rfl⟩
set_option maxRecDepth 100000 in
set_option maxHeartbeats 8000000 in
theorem japp_walk {w : World} {jb db Bj Bd half next turn : Nat} {chk st : List Nat} {rv sd : Value} {rs C : List (List Nat)} (j : JourAt w jb db Bj half next turn chk st rv rs) (h : DiskAt w db Bd sd (.slice none 0 0) C []) (hh : half ≤ 1) (hnx : next ≤ 4096) (hsep : Sep db sd Bj) (ht : Tabs w) (hrs : rs.length < 4096)
    (a : Option Addr) (n c : Nat) (bs : List Nat) (hb : ∀ w', Keep (fun i => i = db ∨ sd.ownBlock = some i) w w' → Sl .u8 w' a n c bs) (hb8 : ∀ d ∈ bs, d < 256) (hn : n ≤ 65536) (m : Nat) (hm : m = (99 + bs.length) / 64) :
    Calls Tryz.prog 10 #[.pointer (some ⟨jb, 0, none⟩), .slice a n c] w (AppRes w jb db Bj Bd half next turn chk st rv rs bs sd C m) := by
  have JJ := hid j
  obtain ⟨sv, hj, hst⟩ := j.ex
  obtain ⟨vs, hox, hrx⟩ := j.row
  have ST := hid hst
  have OX := hid hox
  have RX := hid hrx
  have J0 := hid hj
  have D0 := hid h
  have HH := hid hh
  have SP := hid hsep
  have HT := hid ht
  have HB := hid hb
  have HB8 := hid hb8
  have RS := hid hrs
  have s0 := hb w (Keep.refl _ _)
  have S0 := hid s0
  have hl : bs.length = n := s0.len
  have HL := hid hl
  have HN := hid hn
  have HNX := hid hnx
  obtain ⟨sz, hsz⟩ : ∃ sz, sz = C.length / 2 := ⟨_, rfl⟩
  have SZ := hid hsz
  have few := h.few
  have szl : sz ≤ 2048 := by omega
  have SZL := hid szl
  obtain ⟨n64, hn64⟩ : ∃ n64, n64 = 64 * m := ⟨_, rfl⟩
  have HM := hid hm
  have HN64 := hid hn64
  have hml : 0 < m ∧ m ≤ 1025 := by omega
  have HML := hid hml
  have rl := hid (show (recB chk bs).length = n64 by rw [recB_len, ← hm, hn64]; omega)
  have hl32 := hid (recH_len chk bs)
  have hiC := hid (show (Tryz.prog.info? 62).map (·.size) = some (nums .u8 chk).length by rw [nums_length, hj.l32]; kernel_rfl)
  have hiZ := hid (show (Tryz.prog.info? 62).map (·.size) = some (nums .u8 (recH chk bs)).toArray.size by rw [List.size_toArray, nums_length, recH_len]; kernel_rfl)
  have hiZl := hid (show (Tryz.prog.info? 62).map (·.size) = some (nums .u8 (recH chk bs)).length by rw [nums_length, recH_len]; kernel_rfl)
  have hz1 := hid (all_oneCell_toArray (nums_oneCell .u8 (recH chk bs)))
  have hoZ := hid (show 32 = (nums .u8 (recH chk bs)).toArray.size by rw [List.size_toArray, nums_length, recH_len])
  have C8 := hid j.c8
  have LO := hid j.lo
  have c38 := hj.c38
  have rg := hj.rng
  have t1 : decide ((65536 : Int) < (n : Int)) = false := decide_eq_false (by omega)
  have t2 : decide (65536 < n) = false := decide_eq_false (by omega)
  clear j hj h hh hsep ht hb hb8 hst hox hrx hrs s0 hl hn hnx few szl hsz hn64 hm hml
  go_enter Tryz.func10, Tryz.ntmps10
  go_wp2_with (refine wpList_load_mid rfl _ _ rfl jb 4 rfl (nums .u8 chk) _ rg Tryz.underlying62 rfl hiC.out ?_)
  refine (jrecord_walk chk J0.out.l32 C8.out a n c bs w S0.out HB8.out (by have := HN.out; omega) HT.out).mono ?_
  rintro e w1 ⟨v1, rfl, o1, b1⟩
  rw [rl.out] at o1
  obtain ⟨g1, k1, rfl⟩ := own_sliceJ o1 (by have := HML.out; have := HN64.out; omega)
  have O1 := hid o1
  have B1 := hid b1
  clear o1 b1 c38 rg t1 t2
  go_upto_region 6 with (refine wpList_store_row rfl _ _ _ rfl w1.heap.size (nums .u8 (recH chk bs)).toArray rfl rfl _ _ (heap_alloc_new _ _) hiZ.out hoZ.out hz1.out ?_; refine laidW (F := fun w3 => wpList _ _ _ _ _ w3) ?_; intro w3 h3 b3)
  have B3 := hid (B1.out.trans (b3.out.mono B1.out.size))
  have J3 := hid (J0.out.below B3.out)
  have D3 := hid (D0.out.below B3.out)
  have O3 := hid (Below.ownK O1.out b3.out)
  have c0 := J3.out.c0
  have c1 := J3.out.c1
  have c2 := J3.out.c2
  have q1 : IntKind.i64.wrap ((n64 : Int).tdiv 64) = (m : Int) := by have := HN64.out; have := HML.out; rw [IntKind.wrap_i64, Int.tdiv_eq_ediv_of_nonneg (by omega)]; omega
  have q2 : (n64 : Int).tdiv 64 = (m : Int) := by have := HN64.out; rw [Int.tdiv_eq_ediv_of_nonneg (by omega)]; omega
  have q3 : IntKind.i64.wrap (m : Int) = (m : Int) := by have := HML.out; rw [IntKind.wrap_i64]; omega
  obtain ⟨nk, hnk⟩ : ∃ nk, nk = next + m := ⟨_, rfl⟩
  have NK := hid hnk
  have q4 : IntKind.i64.wrap ((next : Int) + (m : Int)) = (nk : Int) := by have := HML.out; have := HNX.out; rw [IntKind.wrap_i64]; omega
  have DS := fun (wx : World) (bx : Below w3.heap.size w3 wx) => hid (show Calls Tryz.prog 27 #[.pointer (some ⟨db, 0, none⟩)] wx (fun e w' => e = .returned (.int .i64 (sz : Int)) ∧ wx = w') from by have := dsize_walk (D3.out.below bx); rw [← SZ.out] at this; exact this)
  clear hnk
  by_cases hfit : nk ≤ sz
  case neg =>
    have t3 : decide ((sz : Int) < (nk : Int)) = true := decide_eq_true (by omega)
    have t4 : decide (sz < nk) = true := decide_eq_true (by omega)
    have FIT := hid hfit
    clear hfit
    go_quiet ((go_at_call 27; exact quiet_same (DS _ (below_drewN (Below.refl _ _) _)).out))
    go_wp2_with (fail)
    go_ret
    unfold AppRes
    rw [if_neg (by rw [← NK.out, ← SZ.out]; exact FIT.out)]
    exact ⟨rfl, B3.out.trans ((below_drewN (Below.refl _ _) _).mono B3.out.size)⟩
  have t3 : decide ((sz : Int) < (nk : Int)) = false := decide_eq_false (by omega)
  have t4 : decide (sz < nk) = false := decide_eq_false (by omega)
  have FIT := hid hfit
  clear hfit
  go_quiet ((go_at_call 27; exact quiet_same (DS _ (below_drewN (Below.refl _ _) _)).out))
  go_upto_region 8 with (fail)
  refine genW ?_
  intro w4 B4
  have J4 := hid (J3.out.below B4.out)
  have D4 := hid (D3.out.below B4.out)
  have O4 := hid (Below.ownK O3.out B4.out)
  have H4 := hid (heap_keep h3.out B4.out)
  have RX4 := hid (show JRs w4 vs rs from RX.out.keep (Keep.of (S := fun _ => False) (B3.out.trans (B4.out.mono B3.out.size))) (fun _ _ h => h.elim))
  have OX4 := hid (Below.ownK OX.out (B3.out.trans (B4.out.mono B3.out.size)))
  have ST4 := hid (ST.out.below (B3.out.trans (B4.out.mono B3.out.size)))
  have bw4 := hid (B3.out.trans (B4.out.mono B3.out.size))
  have Wlt := hid (show w.heap.size ≤ w1.heap.size ∧ w1.heap.size < w3.heap.size ∧ w3.heap.size ≤ w4.heap.size from ⟨B1.out.size, (Array.getElem?_eq_some_iff.1 h3.out).1, B4.out.size⟩)
  have sdl := hid (show ∀ g, sd.ownBlock = some g → g < w.heap.size from fun g e => by obtain ⟨vs', o', _⟩ := D0.out.sure; exact (o'.lt _ e).2)
  have hnj := hid (show ¬ (jb = db ∨ sd.ownBlock = some jb) from fun e => by
    have := LO.out; have := SP.out.1
    rcases e with e | e
    · omega
    · have := SP.out.2 _ e; omega)
  have hnV := hid (show ¬ (w1.heap.size = db ∨ sd.ownBlock = some w1.heap.size) from fun e => by
    have := Wlt.out; have := D0.out.lt
    rcases e with e | e
    · omega
    · have := sdl.out _ e; omega)
  have hnR := hid (show ∀ g, rv.ownBlock = some g → ¬ (g = db ∨ sd.ownBlock = some g) from fun g hg e => by
    have := (OX.out.lt _ hg).1; have := SP.out.1
    rcases e with e | e
    · omega
    · have := SP.out.2 _ e; omega)
  have c0 := hid J4.out.c0
  have c1 := hid J4.out.c1
  have c2 := hid J4.out.c2
  clear J3 D3 O3 h3 b3 DS t3 t4
  refine wp_region_held_drew (S := fun w' => w'.cell? ⟨jb, 0, none⟩ = some (.pointer (some ⟨db, 0, none⟩)) ∧ w'.cell? ⟨jb, 1, none⟩ = some (.int .i64 (half : Int)) ∧ w'.cell? ⟨jb, 2, none⟩ = some (.int .i64 (next : Int))) (by kernel_rfl) (⟨c0.out, c1.out, c2.out⟩) (fun hHeld => ?_)
  try simp only [List.size_toArray, List.length_cons, List.length_nil, Nat.reduceAdd, Array.replicate_succ, Array.replicate_zero, List.push_toArray, List.nil_append, List.cons_append]
  refine wpAnyH_take (i := 0) (oi := { dst := some 42, op := Op.move (Operand.tmp 0), type := 26, pos := "journal.go:146", after := #[], guard := none }) (v := ?v1001) rfl (by kernel_rfl) (by kernel_rfl) (by kernel_rfl) (fun _ _ _ h => h) (Or.inl ⟨by rfl, ?hy1001⟩) hHeld ?_
  case hy1001 => (intro w hSw; (try dsimp only at hSw); go_simp; (try with_reducible rfl))
  (try simp only [Act.put, List.setIfInBounds_toArray, List.set_cons_zero, List.set_cons_succ])
  refine wpAnyH_take (i := 1) (oi := { dst := some 43, op := Op.nilCheck (Operand.tmp 42), type := 0, pos := "journal.go:146", after := #[{ on := 0, ground := Ground.data }], guard := none }) (v := ?v1002) rfl (by kernel_rfl) (by kernel_rfl) (by kernel_rfl) (fun _ _ _ h => h) (Or.inl ⟨by rfl, ?hy1002⟩) hHeld ?_
  case hy1002 => (intro w hSw; (try dsimp only at hSw); go_simp; (try with_reducible rfl))
  (try simp only [Act.put, List.setIfInBounds_toArray, List.set_cons_zero, List.set_cons_succ])
  refine wpAnyH_take (i := 2) (oi := { dst := some 44, op := Op.fieldAddr 64 (Operand.tmp 43) 0, type := 0, pos := "journal.go:146", after := #[{ on := 1, ground := Ground.data }], guard := none }) (v := ?v1003) rfl (by kernel_rfl) (by kernel_rfl) (by kernel_rfl) (fun _ _ _ h => h) (Or.inl ⟨by rfl, ?hy1003⟩) hHeld ?_
  case hy1003 => (intro w hSw; (try dsimp only at hSw); go_simp; (try with_reducible rfl))
  (try simp only [Act.put, List.setIfInBounds_toArray, List.set_cons_zero, List.set_cons_succ])
  refine wpAnyH_take (i := 3) (oi := { dst := some 45, op := Op.load 24 (Operand.tmp 44), type := 24, pos := "journal.go:146", after := #[{ on := 2, ground := Ground.data }], guard := none }) (v := (.pointer (some ⟨db, 0, none⟩))) rfl (by kernel_rfl) (by kernel_rfl) (by kernel_rfl) (fun _ _ _ h => h) (Or.inl ⟨by rfl, fun w h => by have c9 := h.1; go_simp⟩) hHeld ?_
  (try simp only [Act.put, List.setIfInBounds_toArray, List.set_cons_zero, List.set_cons_succ])
  refine wpAnyH_take (i := 4) (oi := { dst := some 46, op := Op.move (Operand.tmp 0), type := 26, pos := "journal.go:146", after := #[], guard := none }) (v := ?v1004) rfl (by kernel_rfl) (by kernel_rfl) (by kernel_rfl) (fun _ _ _ h => h) (Or.inl ⟨by rfl, ?hy1004⟩) hHeld ?_
  case hy1004 => (intro w hSw; (try dsimp only at hSw); go_simp; (try with_reducible rfl))
  (try simp only [Act.put, List.setIfInBounds_toArray, List.set_cons_zero, List.set_cons_succ])
  refine wpAnyH_take (i := 5) (oi := { dst := some 47, op := Op.nilCheck (Operand.tmp 46), type := 0, pos := "journal.go:146", after := #[{ on := 4, ground := Ground.data }], guard := none }) (v := ?v1005) rfl (by kernel_rfl) (by kernel_rfl) (by kernel_rfl) (fun _ _ _ h => h) (Or.inl ⟨by rfl, ?hy1005⟩) hHeld ?_
  case hy1005 => (intro w hSw; (try dsimp only at hSw); go_simp; (try with_reducible rfl))
  (try simp only [Act.put, List.setIfInBounds_toArray, List.set_cons_zero, List.set_cons_succ])
  refine wpAnyH_take (i := 6) (oi := { dst := some 48, op := Op.fieldAddr 64 (Operand.tmp 47) 1, type := 0, pos := "journal.go:146", after := #[{ on := 5, ground := Ground.data }], guard := none }) (v := ?v1006) rfl (by kernel_rfl) (by kernel_rfl) (by kernel_rfl) (fun _ _ _ h => h) (Or.inl ⟨by rfl, ?hy1006⟩) hHeld ?_
  case hy1006 => (intro w hSw; (try dsimp only at hSw); go_simp; (try with_reducible rfl))
  (try simp only [Act.put, List.setIfInBounds_toArray, List.set_cons_zero, List.set_cons_succ])
  refine wpAnyH_take (i := 7) (oi := { dst := some 49, op := Op.load 3 (Operand.tmp 48), type := 3, pos := "journal.go:146", after := #[{ on := 6, ground := Ground.data }], guard := none }) (v := (.int .i64 (half : Int))) rfl (by kernel_rfl) (by kernel_rfl) (by kernel_rfl) (fun _ _ _ h => h) (Or.inl ⟨by rfl, fun w h => by have c9 := h.2.1; go_simp⟩) hHeld ?_
  (try simp only [Act.put, List.setIfInBounds_toArray, List.set_cons_zero, List.set_cons_succ])
  refine wpAnyH_take (i := 8) (oi := { dst := some 50, op := Op.move (Operand.tmp 0), type := 26, pos := "journal.go:146", after := #[], guard := none }) (v := ?v1007) rfl (by kernel_rfl) (by kernel_rfl) (by kernel_rfl) (fun _ _ _ h => h) (Or.inl ⟨by rfl, ?hy1007⟩) hHeld ?_
  case hy1007 => (intro w hSw; (try dsimp only at hSw); go_simp; (try with_reducible rfl))
  (try simp only [Act.put, List.setIfInBounds_toArray, List.set_cons_zero, List.set_cons_succ])
  refine wpAnyH_take (i := 9) (oi := { dst := some 51, op := Op.nilCheck (Operand.tmp 50), type := 0, pos := "journal.go:146", after := #[{ on := 8, ground := Ground.data }], guard := none }) (v := ?v1008) rfl (by kernel_rfl) (by kernel_rfl) (by kernel_rfl) (fun _ _ _ h => h) (Or.inl ⟨by rfl, ?hy1008⟩) hHeld ?_
  case hy1008 => (intro w hSw; (try dsimp only at hSw); go_simp; (try with_reducible rfl))
  (try simp only [Act.put, List.setIfInBounds_toArray, List.set_cons_zero, List.set_cons_succ])
  refine wpAnyH_take (i := 10) (oi := { dst := some 52, op := Op.fieldAddr 64 (Operand.tmp 51) 2, type := 0, pos := "journal.go:146", after := #[{ on := 9, ground := Ground.data }], guard := none }) (v := ?v1009) rfl (by kernel_rfl) (by kernel_rfl) (by kernel_rfl) (fun _ _ _ h => h) (Or.inl ⟨by rfl, ?hy1009⟩) hHeld ?_
  case hy1009 => (intro w hSw; (try dsimp only at hSw); go_simp; (try with_reducible rfl))
  (try simp only [Act.put, List.setIfInBounds_toArray, List.set_cons_zero, List.set_cons_succ])
  refine wpAnyH_take (i := 11) (oi := { dst := some 53, op := Op.load 3 (Operand.tmp 52), type := 3, pos := "journal.go:146", after := #[{ on := 10, ground := Ground.data }], guard := none }) (v := (.int .i64 (next : Int))) rfl (by kernel_rfl) (by kernel_rfl) (by kernel_rfl) (fun _ _ _ h => h) (Or.inl ⟨by rfl, fun w h => by have c9 := h.2.2; go_simp⟩) hHeld ?_
  (try simp only [Act.put, List.setIfInBounds_toArray, List.set_cons_zero, List.set_cons_succ])
  refine wpAnyH_take (i := 12) (oi := { dst := some 54, op := Op.move (Operand.tmp 5), type := 22, pos := "journal.go:146", after := #[], guard := none }) (v := ?v1010) rfl (by kernel_rfl) (by kernel_rfl) (by kernel_rfl) (fun _ _ _ h => h) (Or.inl ⟨by rfl, ?hy1010⟩) hHeld ?_
  case hy1010 => (intro w hSw; (try dsimp only at hSw); go_simp; (try with_reducible rfl))
  (try simp only [Act.put, List.setIfInBounds_toArray, List.set_cons_zero, List.set_cons_succ])
  refine wpAnyH_ready (rs := [13]) (by kernel_rfl) (by simp) ?_
  refine AllReadyH.cons (o := { dst := some 55, op := Op.call { callee := Callee.value (Operand.func 28), args := #[Operand.tmp 45, Operand.tmp 49, Operand.tmp 53, Operand.tmp 54], argTypes := #[24, 3, 3, 22] }, type := 27, pos := "journal.go:146", after := #[{ on := 3, ground := Ground.data }, { on := 7, ground := Ground.data }, { on := 11, ground := Ground.data }, { on := 12, ground := Ground.data }], guard := none }) rfl (fun K hK => ?_) ?_
  go_simp; have JL := jlay_walk (D4.out.below (Below.refl _ _).drew) half HH.out next g1 k1 m (recB chk bs) (by have := ByA.own (Below.ownK O4.out (Below.refl _ _).drew) (recB_lt chk bs HB8.out); rw [HN64.out] at this; exact this) HML.out.1 (by have := FIT.out; have := NK.out; have := SZ.out; omega); rw [← HN64.out] at JL; refine JL.mono ?_; clear JL; rintro e w5 ⟨rfl, d5, k5⟩; have D5 := hid d5; have K5 := hid k5; clear d5 k5
  refine hK.out _ _ (⟨K5.out.cell hHeld.1 hnj.out, K5.out.cell hHeld.2.1 hnj.out, K5.out.cell hHeld.2.2 hnj.out⟩) (fun hHeld => ?_)
  clear hK K
  (try simp only [List.setIfInBounds_toArray, List.set_cons_zero, List.set_cons_succ])
  refine wpAnyH_take (i := 14) (oi := { dst := some 7, op := Op.assign (Operand.tmp 55), type := 27, pos := "journal.go:146", after := #[{ on := 13, ground := Ground.data }, { on := 13, ground := Ground.chain }, { on := 0, ground := Ground.phase }, { on := 1, ground := Ground.phase }, { on := 2, ground := Ground.phase }, { on := 3, ground := Ground.phase }, { on := 4, ground := Ground.phase }, { on := 5, ground := Ground.phase }, { on := 6, ground := Ground.phase }, { on := 7, ground := Ground.phase }, { on := 8, ground := Ground.phase }, { on := 9, ground := Ground.phase }, { on := 10, ground := Ground.phase }, { on := 11, ground := Ground.phase }, { on := 12, ground := Ground.phase }, { on := 13, ground := Ground.phase }], guard := none }) (v := ?v1011) rfl (by kernel_rfl) (by kernel_rfl) (by kernel_rfl) (fun _ _ _ h => h) (Or.inl ⟨by rfl, ?hy1011⟩) hHeld ?_
  case hy1011 => (intro w hSw; (try dsimp only at hSw); go_simp; (try with_reducible rfl))
  (try simp only [Act.put, List.setIfInBounds_toArray, List.set_cons_zero, List.set_cons_succ])
  refine wpAnyH_done (by kernel_rfl) ?_ _
  rotate_left
  exact AllReadyH.nil
  clear hHeld c0 c1 c2
  go_upto_region 12 with (fail)
  have KK5 := hid (show Keep (fun i => i = db ∨ sd.ownBlock = some i) w4 w5 from (Keep.of (Below.refl _ _).drew).trans K5.out)
  have NB4 := hid (show ∀ i, i < w4.heap.size → (i = db ∨ sd.ownBlock = some i) → NoBy w4 i from fun i _ e => by
    rcases e with rfl | e
    · exact D4.out.noBy
    · obtain ⟨vs', o', _⟩ := D4.out.sure
      exact own_noBy o' (by decide) e)
  have J5 := hid (J4.out.keep KK5.out hnj.out)
  have H5 := hid (KK5.out.heap H4.out hnV.out)
  have S5 := hid (HB.out w5 ((Keep.of bw4.out).trans KK5.out))
  have OX5 := hid (KK5.out.own OX4.out hnR.out)
  have RX5 := hid (RX4.out.keep KK5.out NB4.out)
  have ST5 := hid (ST4.out.keep KK5.out NB4.out)
  have LOW := hid (show Bj ≤ w5.heap.size from by have := LO.out; have := J5.out.lt; omega)
  have hneV := hid (show w1.heap.size ≠ jb by have := J0.out.lt; have := Wlt.out; omega)
  have hnRV := hid (show rv.ownBlock ≠ some w1.heap.size from fun e => by have := (OX.out.lt _ e).2; have := Wlt.out; omega)
  have hnRJ := hid (show rv.ownBlock ≠ some jb from fun e => own_ne_jb J5.out OX5.out e rfl)
  have rs9 := RS.out
  clear ST4 RX4 OX4 J4 H4 K5
  refine wp_region_X (l := 22) (S := fun b w' => w'.rangeAt w1.heap.size 0 (nums .u8 (recH chk bs)) ∧ (b = false → w'.cell? ⟨jb, 37, none⟩ = some rv ∧ w'.cell? ⟨jb, 2, none⟩ = some (.int .i64 (next : Int)))) (by kernel_rfl) (⟨row_range H5.out, fun _ => ⟨J5.out.c37, J5.out.c2⟩⟩) (fun hHeld => ?_)
  try simp only [List.size_toArray, List.length_cons, List.length_nil, Nat.reduceAdd, Array.replicate_succ, Array.replicate_zero, List.push_toArray, List.nil_append, List.cons_append]
  refine wpAnyX_takeE (i := 0) (oi := { dst := some 62, op := Op.move (Operand.tmp 0), type := 26, pos := "journal.go:150", after := #[], guard := none }) (v := ?v2001) rfl (by kernel_rfl) (by kernel_rfl) (by kernel_rfl) (fun _ _ _ h => h) rfl (by kernel_rfl) (by kernel_rfl) (by kernel_rfl) (Or.inl ⟨by rfl, ?hy2001⟩) hHeld ?_
  case hy2001 => (intro w hSw; (try dsimp only at hSw); go_simp; (try with_reducible rfl))
  (try simp only [Act.put, List.setIfInBounds_toArray, List.set_cons_zero, List.set_cons_succ])
  refine wpAnyX_takeA (i := 1) (oi := { dst := some 63, op := Op.move (Operand.tmp 0), type := 26, pos := "journal.go:150", after := #[{ on := 22, ground := Ground.gcOnly Departure.lateStores }], guard := none }) (v := ?v2002) rfl (by kernel_rfl) (by kernel_rfl) (by kernel_rfl) (fun _ _ _ h => h) rfl (by kernel_rfl) (fun _ h => ⟨h.1, nofun⟩) (b := false) (by kernel_rfl) (Or.inl ⟨by rfl, ?hy2002⟩) hHeld ?_
  case hy2002 => (intro w hSw; (try dsimp only at hSw); go_simp; (try with_reducible rfl))
  (try simp only [Act.put, List.setIfInBounds_toArray, List.set_cons_zero, List.set_cons_succ])
  refine wpAnyX_takeA (i := 2) (oi := { dst := some 64, op := Op.move (Operand.tmp 0), type := 26, pos := "journal.go:150", after := #[{ on := 25, ground := Ground.gcOnly Departure.lateStores }], guard := none }) (v := ?v2003) rfl (by kernel_rfl) (by kernel_rfl) (by kernel_rfl) (fun _ _ _ h => h) rfl (by kernel_rfl) (fun _ h => ⟨h.1, nofun⟩) (b := false) (by kernel_rfl) (Or.inl ⟨by rfl, ?hy2003⟩) hHeld ?_
  case hy2003 => (intro w hSw; (try dsimp only at hSw); go_simp; (try with_reducible rfl))
  (try simp only [Act.put, List.setIfInBounds_toArray, List.set_cons_zero, List.set_cons_succ])
  refine wpAnyX_takeE (i := 3) (oi := { dst := some 65, op := Op.move (Operand.tmp 0), type := 26, pos := "journal.go:150", after := #[], guard := none }) (v := ?v2004) rfl (by kernel_rfl) (by kernel_rfl) (by kernel_rfl) (fun _ _ _ h => h) rfl (by kernel_rfl) (by kernel_rfl) (by kernel_rfl) (Or.inl ⟨by rfl, ?hy2004⟩) hHeld ?_
  case hy2004 => (intro w hSw; (try dsimp only at hSw); go_simp; (try with_reducible rfl))
  (try simp only [Act.put, List.setIfInBounds_toArray, List.set_cons_zero, List.set_cons_succ])
  refine wpAnyX_takeE (i := 4) (oi := { dst := some 66, op := Op.nilCheck (Operand.tmp 65), type := 0, pos := "journal.go:150", after := #[{ on := 3, ground := Ground.data }], guard := none }) (v := ?v2005) rfl (by kernel_rfl) (by kernel_rfl) (by kernel_rfl) (fun _ _ _ h => h) rfl (by kernel_rfl) (by kernel_rfl) (by kernel_rfl) (Or.inl ⟨by rfl, ?hy2005⟩) hHeld ?_
  case hy2005 => (intro w hSw; (try dsimp only at hSw); go_simp; (try with_reducible rfl))
  (try simp only [Act.put, List.setIfInBounds_toArray, List.set_cons_zero, List.set_cons_succ])
  refine wpAnyX_takeE (i := 5) (oi := { dst := some 67, op := Op.fieldAddr 64 (Operand.tmp 66) 6, type := 0, pos := "journal.go:150", after := #[{ on := 4, ground := Ground.data }], guard := none }) (v := ?v2006) rfl (by kernel_rfl) (by kernel_rfl) (by kernel_rfl) (fun _ _ _ h => h) rfl (by kernel_rfl) (by kernel_rfl) (by kernel_rfl) (Or.inl ⟨by rfl, ?hy2006⟩) hHeld ?_
  case hy2006 => (intro w hSw; (try dsimp only at hSw); go_simp; (try with_reducible rfl))
  (try simp only [Act.put, List.setIfInBounds_toArray, List.set_cons_zero, List.set_cons_succ])
  refine wpAnyX_takeE (i := 6) (oi := { dst := some 68, op := Op.load 39 (Operand.tmp 67), type := 39, pos := "journal.go:150", after := #[{ on := 5, ground := Ground.data }], guard := none }) (v := rv) rfl (by kernel_rfl) (by kernel_rfl) (by kernel_rfl) (fun _ _ _ h => h) rfl (by kernel_rfl) (by kernel_rfl) (by kernel_rfl) (Or.inl ⟨by rfl, fun w h => by have c9 := (h.2 rfl).1; go_simp⟩) hHeld ?_
  (try simp only [Act.put, List.setIfInBounds_toArray, List.set_cons_zero, List.set_cons_succ])
  refine wpAnyX_takeE (i := 7) (oi := { dst := some 69, op := Op.move (Operand.tmp 1), type := 22, pos := "journal.go:150", after := #[], guard := none }) (v := ?v2007) rfl (by kernel_rfl) (by kernel_rfl) (by kernel_rfl) (fun _ _ _ h => h) rfl (by kernel_rfl) (by kernel_rfl) (by kernel_rfl) (Or.inl ⟨by rfl, ?hy2007⟩) hHeld ?_
  case hy2007 => (intro w hSw; (try dsimp only at hSw); go_simp; (try with_reducible rfl))
  (try simp only [Act.put, List.setIfInBounds_toArray, List.set_cons_zero, List.set_cons_succ])
  refine' wpAnyX_takeA (i := 11) (oi := { dst := some 73, op := Op.load 62 (Operand.tmp 6), type := 62, pos := "journal.go:150", after := #[{ on := 22, ground := Ground.gcOnly Departure.lateStores }], guard := none }) (v := _) rfl (by kernel_rfl) (by kernel_rfl) (by kernel_rfl) (fun _ _ _ h => h) rfl (by kernel_rfl) (fun _ h => ⟨h.1, nofun⟩) (b := false) (by kernel_rfl) (yieldsIf_load_mid (by rfl) _ _ rfl w1.heap.size 0 rfl (nums .u8 (recH chk bs)) _ (fun _ h => h.1) Tryz.underlying62 rfl hiZl.out) hHeld ?_
  (try simp only [Act.put, List.setIfInBounds_toArray, List.set_cons_zero, List.set_cons_succ])
  refine wpAnyX_takeA (i := 12) (oi := { dst := some 74, op := Op.move (Operand.tmp 0), type := 26, pos := "journal.go:150", after := #[], guard := none }) (v := ?v2008) rfl (by kernel_rfl) (by kernel_rfl) (by kernel_rfl) (fun _ _ _ h => h) rfl (by kernel_rfl) (fun _ h => ⟨h.1, nofun⟩) (b := false) (by kernel_rfl) (Or.inl ⟨by rfl, ?hy2008⟩) hHeld ?_
  case hy2008 => (intro w hSw; (try dsimp only at hSw); go_simp; (try with_reducible rfl))
  (try simp only [Act.put, List.setIfInBounds_toArray, List.set_cons_zero, List.set_cons_succ])
  refine wpAnyX_takeA (i := 13) (oi := { dst := some 75, op := Op.nilCheck (Operand.tmp 74), type := 0, pos := "journal.go:150", after := #[{ on := 12, ground := Ground.data }], guard := none }) (v := ?v2009) rfl (by kernel_rfl) (by kernel_rfl) (by kernel_rfl) (fun _ _ _ h => h) rfl (by kernel_rfl) (fun _ h => ⟨h.1, nofun⟩) (b := false) (by kernel_rfl) (Or.inl ⟨by rfl, ?hy2009⟩) hHeld ?_
  case hy2009 => (intro w hSw; (try dsimp only at hSw); go_simp; (try with_reducible rfl))
  (try simp only [Act.put, List.setIfInBounds_toArray, List.set_cons_zero, List.set_cons_succ])
  refine wpAnyX_takeA (i := 14) (oi := { dst := some 76, op := Op.fieldAddr 64 (Operand.tmp 75) 2, type := 0, pos := "journal.go:150", after := #[{ on := 13, ground := Ground.data }], guard := none }) (v := ?v2010) rfl (by kernel_rfl) (by kernel_rfl) (by kernel_rfl) (fun _ _ _ h => h) rfl (by kernel_rfl) (fun _ h => ⟨h.1, nofun⟩) (b := false) (by kernel_rfl) (Or.inl ⟨by rfl, ?hy2010⟩) hHeld ?_
  case hy2010 => (intro w hSw; (try dsimp only at hSw); go_simp; (try with_reducible rfl))
  (try simp only [Act.put, List.setIfInBounds_toArray, List.set_cons_zero, List.set_cons_succ])
  refine wpAnyX_takeE (i := 15) (oi := { dst := some 77, op := Op.load 3 (Operand.tmp 76), type := 3, pos := "journal.go:150", after := #[{ on := 14, ground := Ground.data }], guard := none }) (v := (.int .i64 (next : Int))) rfl (by kernel_rfl) (by kernel_rfl) (by kernel_rfl) (fun _ _ _ h => h) rfl (by kernel_rfl) (by kernel_rfl) (by kernel_rfl) (Or.inl ⟨by rfl, fun w h => by have c9 := (h.2 rfl).2; go_simp⟩) hHeld ?_
  (try simp only [Act.put, List.setIfInBounds_toArray, List.set_cons_zero, List.set_cons_succ])
  refine wpAnyX_takeA (i := 16) (oi := { dst := some 78, op := Op.move (Operand.tmp 5), type := 22, pos := "journal.go:150", after := #[], guard := none }) (v := ?v2011) rfl (by kernel_rfl) (by kernel_rfl) (by kernel_rfl) (fun _ _ _ h => h) rfl (by kernel_rfl) (fun _ h => ⟨h.1, nofun⟩) (b := false) (by kernel_rfl) (Or.inl ⟨by rfl, ?hy2011⟩) hHeld ?_
  case hy2011 => (intro w hSw; (try dsimp only at hSw); go_simp; (try with_reducible rfl))
  (try simp only [Act.put, List.setIfInBounds_toArray, List.set_cons_zero, List.set_cons_succ])
  refine wpAnyX_takeA (i := 17) (oi := { dst := some 79, op := Op.call { callee := Callee.builtin Builtin.len, args := #[Operand.tmp 78], argTypes := #[22] }, type := 3, pos := "journal.go:150", after := #[{ on := 16, ground := Ground.data }], guard := none }) (v := (.int .i64 (n64 : Int))) rfl (by kernel_rfl) (by kernel_rfl) (by kernel_rfl) (fun _ _ _ h => h) rfl (by kernel_rfl) (fun _ h => ⟨h.1, nofun⟩) (b := false) (by kernel_rfl) (Or.inl ⟨by rfl, fun w _ => by go_simp⟩) hHeld ?_
  (try simp only [Act.put, List.setIfInBounds_toArray, List.set_cons_zero, List.set_cons_succ])
  refine wpAnyX_takeA (i := 18) (oi := { dst := some 80, op := Op.binOp BinOp.quo 3 (Operand.tmp 79) (Operand.const (Value.int IntKind.i64 64)) 3, type := 3, pos := "journal.go:150", after := #[{ on := 17, ground := Ground.data }], guard := none }) (v := ?v2012) rfl (by kernel_rfl) (by kernel_rfl) (by kernel_rfl) (fun _ _ _ h => h) rfl (by kernel_rfl) (fun _ h => ⟨h.1, nofun⟩) (b := false) (by kernel_rfl) (Or.inl ⟨by rfl, ?hy2012⟩) hHeld ?_
  case hy2012 => (intro w hSw; (try dsimp only at hSw); go_simp; (try with_reducible rfl))
  (try simp only [Act.put, List.setIfInBounds_toArray, List.set_cons_zero, List.set_cons_succ])
  refine wpAnyX_takeA (i := 19) (oi := { dst := some 81, op := Op.binOp BinOp.add 3 (Operand.tmp 77) (Operand.tmp 80) 3, type := 3, pos := "journal.go:150", after := #[{ on := 15, ground := Ground.data }, { on := 18, ground := Ground.data }], guard := none }) (v := ?v2013) rfl (by kernel_rfl) (by kernel_rfl) (by kernel_rfl) (fun _ _ _ h => h) rfl (by kernel_rfl) (fun _ h => ⟨h.1, nofun⟩) (b := false) (by kernel_rfl) (Or.inl ⟨by rfl, ?hy2013⟩) hHeld ?_
  case hy2013 => (intro w hSw; (try dsimp only at hSw); go_simp; (try with_reducible rfl))
  (try simp only [Act.put, List.setIfInBounds_toArray, List.set_cons_zero, List.set_cons_succ])
  refine wpAnyX_ready (rs := [8]) (by kernel_rfl) (by simp) ?_
  refine AllReadyX.cons (o := { dst := some 70, op := Op.call { callee := Callee.value (Operand.func 29), args := #[Operand.tmp 69], argTypes := #[22] }, type := 22, pos := "journal.go:150", after := #[{ on := 7, ground := Ground.data }], guard := none }) rfl (b := false) (by kernel_rfl) (fun K hK => ?_) ?_
  go_simp; refine (clone8_walk a n c bs _ (S5.out.below (Below.refl _ _).drew) (by have := HN.out; omega)).mono ?_; rintro e w6 ⟨v6, rfl, o6, b6⟩; have O6 := hid o6; have B6 := hid (show Below w5.heap.size w5 w6 from (Below.refl w5.heap.size w5).drew.trans b6); obtain ⟨a6, k6, rfl, _⟩ := Rd.of_owns o6; clear o6 b6
  refine hK.out _ _ (⟨range_keep B6.out hHeld.1, fun e => ⟨cell_keep B6.out (hHeld.2 e).1, cell_keep B6.out (hHeld.2 e).2⟩⟩) (fun hHeld => ?_)
  clear hK K
  (try simp only [List.setIfInBounds_toArray, List.set_cons_zero, List.set_cons_succ])
  refine wpAnyX_ready (rs := [9]) (by kernel_rfl) (by simp) ?_
  refine AllReadyX.cons (o := { dst := some 71, op := Op.buildSlice 39 1 #[(0, Operand.tmp 70)], type := 39, pos := "journal.go:150", after := #[{ on := 8, ground := Ground.data }], guard := none }) rfl (b := false) (by kernel_rfl) (fun K hK => ?_) ?_
  go_simp; (first | refine newZ ?_ | refine newZd ?_); intro wl HLt BL; have BQ := hid (show Below w5.heap.size w5 wl from B6.out.trans (BL.out.mono B6.out.size))
  refine hK.out _ _ (⟨range_keep BL.out hHeld.1, fun e => ⟨cell_keep BL.out (hHeld.2 e).1, cell_keep BL.out (hHeld.2 e).2⟩⟩) (fun hHeld => ?_)
  clear hK K
  (try simp only [List.setIfInBounds_toArray, List.set_cons_zero, List.set_cons_succ])
  refine wpAnyX_ready (rs := [10]) (by kernel_rfl) (by simp) ?_
  refine AllReadyX.cons (o := { dst := some 72, op := Op.call { callee := Callee.builtin Builtin.append, args := #[Operand.tmp 68, Operand.tmp 71], argTypes := #[39, 39] }, type := 39, pos := "journal.go:150", after := #[{ on := 6, ground := Ground.data }, { on := 9, ground := Ground.data }, { on := 8, ground := Ground.chain }], guard := none }) rfl (b := false) (by kernel_rfl) (fun K hK => ?_) ?_
  rw [if_pos (by rfl)]; refine wp_pushK _ _ _ rfl tySs Bj (Below.ownK OX5.out BQ.out) rfl rfl HLt.out rfl (by intro u hu; simp only [List.mem_cons, List.not_mem_nil, or_false] at hu; rcases hu with rfl; rfl) (by first | omega | (simp; omega)) (by decide) (Nat.le_trans LOW.out BQ.out.size) ?_; intro v7 w7 own7 k7 nb7; have O7 := hid own7; have K7 := hid k7; have NB7 := hid nb7; clear own7 k7 nb7
  refine hK.out _ _ (⟨K7.out.range hHeld.1 hnRV.out, fun e => ⟨K7.out.cell (hHeld.2 e).1 hnRJ.out, K7.out.cell (hHeld.2 e).2 hnRJ.out⟩⟩) (fun hHeld => ?_)
  clear hK K
  (try simp only [List.setIfInBounds_toArray, List.set_cons_zero, List.set_cons_succ])
  refine wpAnyX_takeA (i := 20) (oi := { dst := some 82, op := Op.nilCheck (Operand.tmp 62), type := 0, pos := "journal.go:150", after := #[{ on := 0, ground := Ground.data }, { on := 0, ground := Ground.phase }, { on := 1, ground := Ground.textOnly Departure.lateStores }, { on := 2, ground := Ground.textOnly Departure.lateStores }, { on := 3, ground := Ground.phase }, { on := 4, ground := Ground.phase }, { on := 5, ground := Ground.phase }, { on := 6, ground := Ground.phase }, { on := 7, ground := Ground.phase }, { on := 8, ground := Ground.phase }, { on := 9, ground := Ground.phase }, { on := 10, ground := Ground.phase }, { on := 11, ground := Ground.textOnly Departure.lateStores }, { on := 12, ground := Ground.textOnly Departure.lateStores }, { on := 13, ground := Ground.textOnly Departure.lateStoresUnsure }, { on := 14, ground := Ground.textOnly Departure.lateStoresUnsure }, { on := 15, ground := Ground.phase }, { on := 16, ground := Ground.textOnly Departure.lateStores }, { on := 17, ground := Ground.textOnly Departure.lateStoresUnsure }, { on := 18, ground := Ground.textOnly Departure.lateStores }, { on := 19, ground := Ground.textOnly Departure.lateStoresUnsure }], guard := none }) (v := ?v2014) rfl (by kernel_rfl) (by kernel_rfl) (by kernel_rfl) (fun _ _ _ h => h) rfl (by kernel_rfl) (fun _ h => ⟨h.1, nofun⟩) (b := false) (by kernel_rfl) (Or.inl ⟨by rfl, ?hy2014⟩) hHeld ?_
  case hy2014 => (intro w hSw; (try dsimp only at hSw); go_simp; (try with_reducible rfl))
  (try simp only [Act.put, List.setIfInBounds_toArray, List.set_cons_zero, List.set_cons_succ])
  refine wpAnyX_takeE (i := 21) (oi := { dst := some 83, op := Op.fieldAddr 64 (Operand.tmp 82) 6, type := 0, pos := "journal.go:150", after := #[{ on := 20, ground := Ground.data }, { on := 0, ground := Ground.phase }, { on := 1, ground := Ground.textOnly Departure.lateStores }, { on := 2, ground := Ground.textOnly Departure.lateStores }, { on := 3, ground := Ground.phase }, { on := 4, ground := Ground.phase }, { on := 5, ground := Ground.phase }, { on := 6, ground := Ground.phase }, { on := 7, ground := Ground.phase }, { on := 8, ground := Ground.phase }, { on := 9, ground := Ground.phase }, { on := 10, ground := Ground.phase }, { on := 11, ground := Ground.textOnly Departure.lateStores }, { on := 12, ground := Ground.textOnly Departure.lateStores }, { on := 13, ground := Ground.textOnly Departure.lateStoresUnsure }, { on := 14, ground := Ground.textOnly Departure.lateStoresUnsure }, { on := 15, ground := Ground.phase }, { on := 16, ground := Ground.textOnly Departure.lateStores }, { on := 17, ground := Ground.textOnly Departure.lateStoresUnsure }, { on := 18, ground := Ground.textOnly Departure.lateStores }, { on := 19, ground := Ground.textOnly Departure.lateStoresUnsure }], guard := none }) (v := ?v2015) rfl (by kernel_rfl) (by kernel_rfl) (by kernel_rfl) (fun _ _ _ h => h) rfl (by kernel_rfl) (by kernel_rfl) (by kernel_rfl) (Or.inl ⟨by rfl, ?hy2015⟩) hHeld ?_
  case hy2015 => (intro w hSw; (try dsimp only at hSw); go_simp; (try with_reducible rfl))
  (try simp only [Act.put, List.setIfInBounds_toArray, List.set_cons_zero, List.set_cons_succ])
  refine wpAnyX_ready (rs := [22]) (by kernel_rfl) (by simp) ?_
  refine AllReadyX.cons (o := { dst := none, op := Op.store 39 (Operand.tmp 83) (Operand.tmp 72), type := 0, pos := "journal.go:150", after := #[{ on := 21, ground := Ground.data }, { on := 10, ground := Ground.data }, { on := 10, ground := Ground.chain }, { on := 0, ground := Ground.phase }, { on := 1, ground := Ground.textOnly Departure.lateStores }, { on := 2, ground := Ground.textOnly Departure.lateStores }, { on := 3, ground := Ground.phase }, { on := 4, ground := Ground.phase }, { on := 5, ground := Ground.phase }, { on := 6, ground := Ground.phase }, { on := 7, ground := Ground.phase }, { on := 8, ground := Ground.phase }, { on := 9, ground := Ground.phase }, { on := 10, ground := Ground.phase }, { on := 11, ground := Ground.textOnly Departure.lateStores }, { on := 12, ground := Ground.textOnly Departure.lateStores }, { on := 13, ground := Ground.textOnly Departure.lateStoresUnsure }, { on := 14, ground := Ground.textOnly Departure.lateStoresUnsure }, { on := 15, ground := Ground.phase }, { on := 16, ground := Ground.textOnly Departure.lateStores }, { on := 17, ground := Ground.textOnly Departure.lateStoresUnsure }, { on := 18, ground := Ground.textOnly Departure.lateStores }, { on := 19, ground := Ground.textOnly Departure.lateStoresUnsure }], guard := none }) rfl (b := true) (by kernel_rfl) (fun K hK => ?_) ?_
  have j7 := hid ((J5.out.below BQ.out).keep K7.out hnRJ.out); have c9 := j7.out.c37; have z9 := j7.out.fz 37; obtain ⟨a7, k7, rfl, _⟩ := Rd.of_owns O7.out; go_simp; refine j7.out.set37 _ ?_; intro w8 J8 F8
  refine hK.out _ _ (⟨range_far F8.out hHeld.1 hneV.out, nofun⟩) (fun hHeld => ?_)
  clear hK K
  (try simp only [List.setIfInBounds_toArray, List.set_cons_zero, List.set_cons_succ])
  refine wpAnyX_takeA (i := 23) (oi := { dst := some 84, op := Op.nilCheck (Operand.tmp 63), type := 0, pos := "journal.go:150", after := #[{ on := 1, ground := Ground.data }, { on := 0, ground := Ground.phase }, { on := 1, ground := Ground.phase }, { on := 2, ground := Ground.textOnly Departure.lateStores }, { on := 3, ground := Ground.phase }, { on := 4, ground := Ground.phase }, { on := 5, ground := Ground.phase }, { on := 6, ground := Ground.phase }, { on := 7, ground := Ground.phase }, { on := 8, ground := Ground.phase }, { on := 9, ground := Ground.phase }, { on := 10, ground := Ground.phase }, { on := 11, ground := Ground.phase }, { on := 12, ground := Ground.textOnly Departure.lateStores }, { on := 13, ground := Ground.textOnly Departure.lateStoresUnsure }, { on := 14, ground := Ground.textOnly Departure.lateStoresUnsure }, { on := 15, ground := Ground.phase }, { on := 16, ground := Ground.textOnly Departure.lateStores }, { on := 17, ground := Ground.textOnly Departure.lateStoresUnsure }, { on := 18, ground := Ground.textOnly Departure.lateStores }, { on := 19, ground := Ground.textOnly Departure.lateStoresUnsure }, { on := 20, ground := Ground.phase }, { on := 21, ground := Ground.phase }, { on := 22, ground := Ground.phase }], guard := none }) (v := ?v2016) rfl (by kernel_rfl) (by kernel_rfl) (by kernel_rfl) (fun _ _ _ h => h) rfl (by kernel_rfl) (fun _ h => ⟨h.1, nofun⟩) (b := true) (by kernel_rfl) (Or.inl ⟨by rfl, ?hy2016⟩) hHeld ?_
  case hy2016 => (intro w hSw; (try dsimp only at hSw); go_simp; (try with_reducible rfl))
  (try simp only [Act.put, List.setIfInBounds_toArray, List.set_cons_zero, List.set_cons_succ])
  refine wpAnyX_takeA (i := 24) (oi := { dst := some 85, op := Op.fieldAddr 64 (Operand.tmp 84) 4, type := 0, pos := "journal.go:150", after := #[{ on := 23, ground := Ground.data }, { on := 0, ground := Ground.phase }, { on := 1, ground := Ground.phase }, { on := 2, ground := Ground.textOnly Departure.lateStores }, { on := 3, ground := Ground.phase }, { on := 4, ground := Ground.phase }, { on := 5, ground := Ground.phase }, { on := 6, ground := Ground.phase }, { on := 7, ground := Ground.phase }, { on := 8, ground := Ground.phase }, { on := 9, ground := Ground.phase }, { on := 10, ground := Ground.phase }, { on := 11, ground := Ground.phase }, { on := 12, ground := Ground.textOnly Departure.lateStores }, { on := 13, ground := Ground.textOnly Departure.lateStoresUnsure }, { on := 14, ground := Ground.textOnly Departure.lateStoresUnsure }, { on := 15, ground := Ground.phase }, { on := 16, ground := Ground.textOnly Departure.lateStores }, { on := 17, ground := Ground.textOnly Departure.lateStoresUnsure }, { on := 18, ground := Ground.textOnly Departure.lateStores }, { on := 19, ground := Ground.textOnly Departure.lateStoresUnsure }, { on := 20, ground := Ground.phase }, { on := 21, ground := Ground.phase }, { on := 22, ground := Ground.phase }], guard := none }) (v := ?v2017) rfl (by kernel_rfl) (by kernel_rfl) (by kernel_rfl) (fun _ _ _ h => h) rfl (by kernel_rfl) (fun _ h => ⟨h.1, nofun⟩) (b := true) (by kernel_rfl) (Or.inl ⟨by rfl, ?hy2017⟩) hHeld ?_
  case hy2017 => (intro w hSw; (try dsimp only at hSw); go_simp; (try with_reducible rfl))
  (try simp only [Act.put, List.setIfInBounds_toArray, List.set_cons_zero, List.set_cons_succ])
  refine wpAnyX_ready (rs := [25]) (by kernel_rfl) (by simp) ?_
  refine AllReadyX.cons (o := { dst := none, op := Op.store 62 (Operand.tmp 85) (Operand.tmp 73), type := 0, pos := "journal.go:150", after := #[{ on := 24, ground := Ground.data }, { on := 11, ground := Ground.data }, { on := 22, ground := Ground.chain }, { on := 0, ground := Ground.phase }, { on := 1, ground := Ground.phase }, { on := 2, ground := Ground.textOnly Departure.lateStores }, { on := 3, ground := Ground.phase }, { on := 4, ground := Ground.phase }, { on := 5, ground := Ground.phase }, { on := 6, ground := Ground.phase }, { on := 7, ground := Ground.phase }, { on := 8, ground := Ground.phase }, { on := 9, ground := Ground.phase }, { on := 10, ground := Ground.phase }, { on := 11, ground := Ground.phase }, { on := 12, ground := Ground.textOnly Departure.lateStores }, { on := 13, ground := Ground.textOnly Departure.lateStoresUnsure }, { on := 14, ground := Ground.textOnly Departure.lateStoresUnsure }, { on := 15, ground := Ground.phase }, { on := 16, ground := Ground.textOnly Departure.lateStores }, { on := 17, ground := Ground.textOnly Departure.lateStoresUnsure }, { on := 18, ground := Ground.textOnly Departure.lateStores }, { on := 19, ground := Ground.textOnly Departure.lateStoresUnsure }, { on := 20, ground := Ground.phase }, { on := 21, ground := Ground.phase }, { on := 22, ground := Ground.phase }], guard := none }) rfl (b := true) (by kernel_rfl) (fun K hK => ?_) ?_
  rw [if_pos (by rfl)]; refine wp_store_mid _ _ _ rfl jb 4 (nums .u8 (recH chk bs)).toArray rfl rfl (by rw [← hoZ.out]; exact J8.out.there) hiZ.out hz1.out ?_; simp only []; refine J8.out.setC (recH chk bs) hl32.out ?_; intro w9 J9 F9
  refine hK.out _ _ (⟨range_far F9.out hHeld.1 hneV.out, nofun⟩) (fun hHeld => ?_)
  clear hK K
  (try simp only [List.setIfInBounds_toArray, List.set_cons_zero, List.set_cons_succ])
  refine wpAnyX_takeA (i := 26) (oi := { dst := some 86, op := Op.nilCheck (Operand.tmp 64), type := 0, pos := "journal.go:150", after := #[{ on := 2, ground := Ground.data }, { on := 0, ground := Ground.phase }, { on := 1, ground := Ground.phase }, { on := 2, ground := Ground.phase }, { on := 3, ground := Ground.phase }, { on := 4, ground := Ground.phase }, { on := 5, ground := Ground.phase }, { on := 6, ground := Ground.phase }, { on := 7, ground := Ground.phase }, { on := 8, ground := Ground.phase }, { on := 9, ground := Ground.phase }, { on := 10, ground := Ground.phase }, { on := 11, ground := Ground.phase }, { on := 12, ground := Ground.phase }, { on := 13, ground := Ground.phase }, { on := 14, ground := Ground.phase }, { on := 15, ground := Ground.phase }, { on := 16, ground := Ground.phase }, { on := 17, ground := Ground.phase }, { on := 18, ground := Ground.phase }, { on := 19, ground := Ground.phase }, { on := 20, ground := Ground.phase }, { on := 21, ground := Ground.phase }, { on := 22, ground := Ground.phase }, { on := 23, ground := Ground.phase }, { on := 24, ground := Ground.phase }, { on := 25, ground := Ground.phase }], guard := none }) (v := ?v2018) rfl (by kernel_rfl) (by kernel_rfl) (by kernel_rfl) (fun _ _ _ h => h) rfl (by kernel_rfl) (fun _ h => ⟨h.1, nofun⟩) (b := true) (by kernel_rfl) (Or.inl ⟨by rfl, ?hy2018⟩) hHeld ?_
  case hy2018 => (intro w hSw; (try dsimp only at hSw); go_simp; (try with_reducible rfl))
  (try simp only [Act.put, List.setIfInBounds_toArray, List.set_cons_zero, List.set_cons_succ])
  refine wpAnyX_takeA (i := 27) (oi := { dst := some 87, op := Op.fieldAddr 64 (Operand.tmp 86) 2, type := 0, pos := "journal.go:150", after := #[{ on := 26, ground := Ground.data }, { on := 0, ground := Ground.phase }, { on := 1, ground := Ground.phase }, { on := 2, ground := Ground.phase }, { on := 3, ground := Ground.phase }, { on := 4, ground := Ground.phase }, { on := 5, ground := Ground.phase }, { on := 6, ground := Ground.phase }, { on := 7, ground := Ground.phase }, { on := 8, ground := Ground.phase }, { on := 9, ground := Ground.phase }, { on := 10, ground := Ground.phase }, { on := 11, ground := Ground.phase }, { on := 12, ground := Ground.phase }, { on := 13, ground := Ground.phase }, { on := 14, ground := Ground.phase }, { on := 15, ground := Ground.phase }, { on := 16, ground := Ground.phase }, { on := 17, ground := Ground.phase }, { on := 18, ground := Ground.phase }, { on := 19, ground := Ground.phase }, { on := 20, ground := Ground.phase }, { on := 21, ground := Ground.phase }, { on := 22, ground := Ground.phase }, { on := 23, ground := Ground.phase }, { on := 24, ground := Ground.phase }, { on := 25, ground := Ground.phase }], guard := none }) (v := ?v2019) rfl (by kernel_rfl) (by kernel_rfl) (by kernel_rfl) (fun _ _ _ h => h) rfl (by kernel_rfl) (fun _ h => ⟨h.1, nofun⟩) (b := true) (by kernel_rfl) (Or.inl ⟨by rfl, ?hy2019⟩) hHeld ?_
  case hy2019 => (intro w hSw; (try dsimp only at hSw); go_simp; (try with_reducible rfl))
  (try simp only [Act.put, List.setIfInBounds_toArray, List.set_cons_zero, List.set_cons_succ])
  refine wpAnyX_ready (rs := [28]) (by kernel_rfl) (by simp) ?_
  refine AllReadyX.cons (o := { dst := none, op := Op.store 3 (Operand.tmp 87) (Operand.tmp 81), type := 0, pos := "journal.go:150", after := #[{ on := 27, ground := Ground.data }, { on := 19, ground := Ground.data }, { on := 25, ground := Ground.chain }, { on := 0, ground := Ground.phase }, { on := 1, ground := Ground.phase }, { on := 2, ground := Ground.phase }, { on := 3, ground := Ground.phase }, { on := 4, ground := Ground.phase }, { on := 5, ground := Ground.phase }, { on := 6, ground := Ground.phase }, { on := 7, ground := Ground.phase }, { on := 8, ground := Ground.phase }, { on := 9, ground := Ground.phase }, { on := 10, ground := Ground.phase }, { on := 11, ground := Ground.phase }, { on := 12, ground := Ground.phase }, { on := 13, ground := Ground.phase }, { on := 14, ground := Ground.phase }, { on := 15, ground := Ground.phase }, { on := 16, ground := Ground.phase }, { on := 17, ground := Ground.phase }, { on := 18, ground := Ground.phase }, { on := 19, ground := Ground.phase }, { on := 20, ground := Ground.phase }, { on := 21, ground := Ground.phase }, { on := 22, ground := Ground.phase }, { on := 23, ground := Ground.phase }, { on := 24, ground := Ground.phase }, { on := 25, ground := Ground.phase }], guard := none }) rfl (b := true) (by kernel_rfl) (fun K hK => ?_) ?_
  have c9 := J9.out.c2; have z9 := J9.out.fz 2; go_simp; refine J9.out.set2 _ ?_; intro w10 J10 F10
  refine hK.out _ _ (⟨range_far F10.out hHeld.1 hneV.out, nofun⟩) (fun hHeld => ?_)
  clear hK K
  (try simp only [List.setIfInBounds_toArray, List.set_cons_zero, List.set_cons_succ])
  refine wpAnyX_done (by kernel_rfl) ?_ _
  rotate_left
  exact AllReadyX.nil
  exact AllReadyX.nil
  exact AllReadyX.nil
  exact AllReadyX.nil
  exact AllReadyX.nil
  exact AllReadyX.nil
  have FJ := hid (Keep.far' ((F8.out.trans F9.out).trans F10.out))
  have K6' := hid (show Keep (fun i => i = jb ∨ rv.ownBlock = some i) w6 w10 from ((Keep.of BL.out).trans (K7.out.mono (fun _ h => .inr h))).trans (FJ.out.mono (fun _ h => .inl h)))
  have K5' := hid (show Keep (fun i => i = jb ∨ rv.ownBlock = some i) w5 w10 from (Keep.of B6.out).trans K6'.out)
  have NB5 := hid (show ∀ i, (i = jb ∨ rv.ownBlock = some i) → NoBy w5 i from fun i e => by
    rcases e with rfl | e
    · exact J5.out.noBy
    · exact own_noBy OX5.out (by decide) e)
  have NB6 := hid (show ∀ i, (i = jb ∨ rv.ownBlock = some i) → NoBy w6 i from fun i e => by
    rcases e with rfl | e
    · exact (J5.out.below B6.out).noBy
    · exact own_noBy (Below.ownK OX5.out B6.out) (by decide) e)
  have D10 := hid (show DiskAt w10 db Bd sd (.slice none 0 0) (layB C (half * (C.length / 2) + next) (recB chk bs) m) [] from by
    refine D5.out.keep K5'.out (fun i _ e => NB5.out i e) (fun e => ?_) (fun g hg e => ?_) (fun g hg => nomatch hg)
    · rcases e with e | e
      · exact hnj.out (.inl e.symm)
      · exact hnR.out _ e (.inl rfl)
    · rcases e with e | e
      · exact hnj.out (.inr (e ▸ hg))
      · exact hnR.out _ e (.inr hg))
  have R10 := hid (show JRs w10 (vs ++ [.slice a6 bs.length k6]) (rs ++ [bs]) from (RX5.out.keep K5'.out (fun i _ e => NB5.out i e)).snoc ((ByA.own O6.out HB8.out).keep K6'.out (fun i _ e => NB6.out i e)))
  have O10 := hid (FJ.out.own O7.out (fun g hg e => own_ne_jb j7.out O7.out hg e))
  have JA := hid (show JourAt w10 jb db Bj half nk turn (recH chk bs) st (.slice a7 (rs.length + 1) k7) (rs ++ [bs]) from
    ⟨⟨sv, J10.out, ST5.out.keep K5'.out (fun i _ e => NB5.out i e)⟩, (recH_ok _ _).2, ⟨_, by rw [List.length_append, List.length_singleton]; exact O10.out, R10.out⟩, LO.out⟩)
  have KT := hid (show Keep (fun i => i = db ∨ sd.ownBlock = some i ∨ i = jb ∨ rv.ownBlock = some i) w w10 from
    (((Keep.of bw4.out).trans (KK5.out.mono (fun i h => by rcases h with h | h; exact .inl h; exact .inr (.inl h))))).trans (K5'.out.mono (fun i h => .inr (.inr h))))
  have NW := hid (show JNew w rv (.slice a7 (rs.length + 1) k7) from by
    rcases NB7.out with e | e
    · exact .inl e
    · refine .inr (fun g hg => ?_)
      rw [e] at hg
      cases hg
      exact Nat.le_trans (Nat.le_trans (Nat.le_trans bw4.out.size KK5.out.size) B6.out.size) BL.out.size)
  clear hHeld J8 J9 J10 F8 F9 F10 j7 FJ K6' K5' NB5 NB6 R10 O10 O7 K7 HLt BL BQ D5 J5 S5
  go_wp2_with (fail)
  go_ret
  unfold AppRes
  rw [if_pos (by rw [← NK.out, ← SZ.out]; exact FIT.out)]
  rw [NK.out] at JA
  exact ⟨rfl, ⟨⟨_, JA.out, NW.out⟩, D10.out, KT.out⟩⟩
end Go.Proofs.YtnophelfpoldfaaGreatDoor
