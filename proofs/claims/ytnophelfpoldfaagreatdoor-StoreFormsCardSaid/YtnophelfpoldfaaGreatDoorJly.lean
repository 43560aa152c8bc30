/- The journal's Lay. -/
import Derived.Test.YtnophelfpoldfaaGreatDoorJap
namespace Go.Proofs.YtnophelfpoldfaaGreatDoor
open Go.RowKit

structure LayOk (w : World) (jb db Bj Bd half turn : Nat) (s : List Nat) (sd : Value) (C : List (List Nat)) (m : Nat) (w' : World) : Prop where
  ex : JourAt w' jb db Bj (1 - half) m (turn + 1) (recH z32 (be8 (turn + 1) ++ s)) s (.slice none 0 0) []
  dsk : DiskAt w' db Bd sd (.slice none 0 0) (layB C ((1 - half) * (C.length / 2) + 0) (recB z32 (be8 (turn + 1) ++ s)) m) []
  keep : Keep (fun i => i = db ∨ sd.ownBlock = some i ∨ i = jb) w w'
def LayRes (w : World) (jb db Bj Bd half turn : Nat) (s : List Nat) (sd : Value) (C : List (List Nat)) (m : Nat) (e : Ending) (w' : World) : Prop :=
  if m ≤ C.length / 2 ∧ turn ≠ 18446744073709551615 then e = .returned (.int .i64 0) ∧ LayOk w jb db Bj Bd half turn s sd C m w' else e = .returned (.int .i64 41) ∧ Below w.heap.size w w'
theorem jput_long {w : World} {jb db Bj half next turn : Nat} {chk st : List Nat} {rv : Value} {rs : List (List Nat)} (j : JourAt w jb db Bj half next turn chk st rv rs) (a : Option Addr) (n c : Nat) (hn : 262144 < n) :
    Calls Tryz.prog 9 #[.pointer (some ⟨jb, 0, none⟩), .slice a n c] w fun e w' => e = .returned (.int .i64 3) ∧ w = w' := by
  obtain ⟨sv, hj, _⟩ := j.ex
  have c38 := hj.c38
  have t1 : decide ((262144 : Int) < (n : Int)) = true := decide_eq_true (by omega)
  have t2 : decide (262144 < n) = true := decide_eq_true hn
  clear j hj hn
  go_enter Tryz.func9, Tryz.ntmps9
  go_wp2
  go_ret
  exact ⟨rfl, rfl⟩
set_option maxRecDepth 100000 in
set_option maxHeartbeats 8000000 in
theorem jput_walk {w : World} {jb db Bj Bd half next turn : Nat} {chk st : List Nat} {rv sd : Value} {rs C : List (List Nat)} (j : JourAt w jb db Bj half next turn chk st rv rs) (h : DiskAt w db Bd sd (.slice none 0 0) C []) (hh : half ≤ 1) (htn : turn < 18446744073709551616) (hsep : Sep db sd Bj) (ht : Tabs w)
    (a : Option Addr) (n c : Nat) (s : List Nat) (hb : ∀ w', Keep (fun i => i = db ∨ sd.ownBlock = some i ∨ i = jb) w w' → Sl .u8 w' a n c s) (hb8 : ∀ d ∈ s, d < 256) (hn : n ≤ 262144) (m : Nat) (hm : m = (107 + s.length) / 64) :
    Calls Tryz.prog 9 #[.pointer (some ⟨jb, 0, none⟩), .slice a n c] w (LayRes w jb db Bj Bd half turn s sd C m) := by
  obtain ⟨sv, hj, hst⟩ := j.ex
  have J0 := hid hj
  have D0 := hid h
  have HH := hid hh
  have SP := hid hsep
  have HT := hid ht
  have HB := hid hb
  have HB8 := hid hb8
  have s0 := hb w (Keep.refl _ _)
  have S0 := hid s0
  have hl : s.length = n := s0.len
  have HL := hid hl
  have HN := hid hn
  have HTN := hid htn
  obtain ⟨sz, hsz⟩ : ∃ sz, sz = C.length / 2 := ⟨_, rfl⟩
  have SZ := hid hsz
  have few := h.few
  have szl : sz ≤ 2048 := by omega
  have SZL := hid szl
  obtain ⟨n64, hn64⟩ : ∃ n64, n64 = 64 * m := ⟨_, rfl⟩
  have HM := hid hm
  have HN64 := hid hn64
  have hml : 0 < m ∧ m ≤ 4098 := by omega
  have HML := hid hml
  obtain ⟨tn, htn1⟩ : ∃ tn, tn = (turn + 1) % 18446744073709551616 := ⟨_, rfl⟩
  have TN := hid htn1
  have TNL := hid (show tn < 18446744073709551616 by omega)
  obtain ⟨bs, hbs⟩ : ∃ bs, bs = be8 tn ++ s := ⟨_, rfl⟩
  have BS := hid hbs
  have bl := hid (show bs.length = 8 + n by rw [hbs, List.length_append, be8_len, hl])
  have B8 := hid (show ∀ d ∈ bs, d < 256 from fun d hd => by
    rw [hbs, List.mem_append] at hd
    rcases hd with hd | hd
    · exact be8_lt tn d hd
    · exact hb8 d hd)
  have rl := hid (show (recB z32 bs).length = n64 by rw [recB_len, bl.out, hn64, hm, hl]; omega)
  have hl32 := hid (recH_len z32 bs)
  have Z8 := hid (show ∀ d ∈ z32, d < 256 by decide)
  have hiZ := hid (show (Tryz.prog.info? 62).map (·.size) = some (nums .u8 (recH z32 bs)).toArray.size by rw [List.size_toArray, nums_length, recH_len]; kernel_rfl)
  have hiZl := hid (show (Tryz.prog.info? 62).map (·.size) = some (nums .u8 (recH z32 bs)).length by rw [nums_length, recH_len]; kernel_rfl)
  have hz1 := hid (all_oneCell_toArray (nums_oneCell .u8 (recH z32 bs)))
  have hoZ := hid (show 32 = (nums .u8 (recH z32 bs)).toArray.size by rw [List.size_toArray, nums_length, recH_len])
  have LO := hid j.lo
  have c38 := hj.c38
  have c3 := hj.c3
  have t1 : decide ((262144 : Int) < (n : Int)) = false := decide_eq_false (by omega)
  have t2 : decide (262144 < n) = false := decide_eq_false (by omega)
  obtain ⟨hf, hhf⟩ : ∃ hf, hf = 1 - half := ⟨_, rfl⟩
  have HF := hid hhf
  have q5 : IntKind.i64.wrap (1 - (half : Int)) = (hf : Int) := by rw [IntKind.wrap_i64]; omega
  clear hhf
  have u1 : IntKind.u64.wrap ((turn : Int) + 1) = (tn : Int) := by rw [IntKind.wrap_u64]; omega
  clear j hj h hh hsep ht hb hb8 hst s0 hl hn few szl hsz hn64 hm hml htn htn1 hbs
  go_enter Tryz.func9, Tryz.ntmps9
  go_wp2_with (fail)
  refine (jeight_walk tn TNL.out w).mono ?_
  rintro e w1 ⟨v1, rfl, o1, b1⟩
  rw [be8_len] at o1
  have O1 := hid o1
  have B1 := hid b1
  have S1 := hid (S0.out.below b1)
  clear o1 b1 c38 t1 t2
  go_wp2_with (at_builtin; refine wpList_cat rfl _ _ 22 rfl tyBs w.heap.size O1.out rfl rfl S1.out (nums_oneCell _ _) (by have := HN.out; omega) (by have := HN.out; unfold maxLen; omega) B1.out.size ?_; intro v2 w2 own2 b2 hs2 _; rw [nums_append, ← BS.out] at own2; have B2 := hid (B1.out.trans b2); obtain ⟨a2, k2, rfl, r2⟩ := Rd.of_owns own2; have R2 := hid r2; clear own2 b2 hs2 r2)
  refine (jrecord_walk z32 rfl Z8.out a2 (8 + n) k2 bs w2 R2.out B8.out (by have := HN.out; omega) (HT.out.below B2.out)).mono ?_
  rintro e w3 ⟨v3, rfl, o3, b3⟩
  rw [rl.out] at o3
  obtain ⟨g1, k1, rfl⟩ := own_sliceJ o3 (by have := HML.out; have := HN64.out; omega)
  have O3 := hid o3
  have B3 := hid (B2.out.trans (b3.mono B2.out.size))
  clear o3 b3
  go_upto_region 6 with (refine wpList_store_row rfl _ _ _ rfl w3.heap.size (nums .u8 (recH z32 bs)).toArray rfl rfl _ _ (heap_alloc_new _ _) hiZ.out hoZ.out hz1.out ?_; refine laidW (F := fun w3 => wpList _ _ _ _ _ w3) ?_; intro w4 h4 b4)
  have B4 := hid (B3.out.trans (b4.out.mono B3.out.size))
  have J4 := hid (J0.out.below B4.out)
  have D4 := hid (D0.out.below B4.out)
  have O4 := hid (Below.ownK O3.out b4.out)
  have H4 := h4
  have c0 := J4.out.c0
  have c3 := J4.out.c3
  have q2 : (n64 : Int).tdiv 64 = (m : Int) := by have := HN64.out; rw [Int.tdiv_eq_ediv_of_nonneg (by omega)]; omega
  have q3 : IntKind.i64.wrap (m : Int) = (m : Int) := by have := HML.out; rw [IntKind.wrap_i64]; omega
  have DS := hid (show Calls Tryz.prog 27 #[.pointer (some ⟨db, 0, none⟩)] w4 (fun e w' => e = .returned (.int .i64 (sz : Int)) ∧ w4 = w') from by have := dsize_walk D4.out; rw [← SZ.out] at this; exact this)
  by_cases hfit : m ≤ sz
  case neg =>
    have t3 : decide ((sz : Int) < (m : Int)) = true := decide_eq_true (by omega)
    have t4 : decide (sz < m) = true := decide_eq_true (by omega)
    have FIT := hid hfit
    clear hfit
    go_wp2_with (fail)
    refine DS.out.mono ?_
    rintro e w5 ⟨rfl, rfl⟩
    go_wp2_with (fail)
    go_ret
    unfold LayRes
    rw [if_neg (by rw [← SZ.out]; exact fun h => FIT.out h.1)]
    exact ⟨rfl, B4.out⟩
  have t3 : decide ((sz : Int) < (m : Int)) = false := decide_eq_false (by omega)
  have t4 : decide (sz < m) = false := decide_eq_false (by omega)
  have FIT := hid hfit
  clear hfit
  by_cases hmax : turn = 18446744073709551615
  case pos =>
    have t5 : ((turn : Int) == 18446744073709551615) = true := by rw [beq_iff_eq]; omega
    have t6 : (turn == 18446744073709551615) = true := by rw [beq_iff_eq]; omega
    have MX := hid hmax
    clear hmax
    go_wp2_with (fail)
    refine DS.out.mono ?_
    rintro e w5 ⟨rfl, rfl⟩
    go_wp2_with (fail)
    go_ret
    unfold LayRes
    rw [if_neg (fun h => h.2 MX.out)]
    exact ⟨rfl, B4.out⟩
  have t5 : ((turn : Int) == 18446744073709551615) = false := by rw [beq_eq_false_iff_ne]; omega
  have t6 : (turn == 18446744073709551615) = false := by rw [beq_eq_false_iff_ne]; omega
  have MX := hid hmax
  clear hmax
  go_wp2_with (fail)
  refine DS.out.mono ?_
  rintro e w5 ⟨rfl, rfl⟩
  go_upto_region 8 with (fail)
  have Wlt := hid (show w.heap.size ≤ w3.heap.size ∧ w3.heap.size < w4.heap.size from ⟨B3.out.size, (Array.getElem?_eq_some_iff.1 H4.out).1⟩)
  have sdl := hid (show ∀ g, sd.ownBlock = some g → g < w.heap.size from fun g e => by obtain ⟨vs', o', _⟩ := D0.out.sure; exact (o'.lt _ e).2)
  have hnj := hid (show ¬ (jb = db ∨ sd.ownBlock = some jb) from fun e => by
    have := LO.out; have := SP.out.1
    rcases e with e | e
    · omega
    · have := SP.out.2 _ e; omega)
  have hnV := hid (show ¬ (w3.heap.size = db ∨ sd.ownBlock = some w3.heap.size) from fun e => by
    have := Wlt.out; have := D0.out.lt
    rcases e with e | e
    · omega
    · have := sdl.out _ e; omega)
  have ch0 := hid c0
  have ch1 := hid J4.out.c1
  clear c0 c3 DS h4 b4 t3 t4 t5 t6
  refine wp_region_held_drew (S := fun w' => w'.cell? ⟨jb, 0, none⟩ = some (.pointer (some ⟨db, 0, none⟩)) ∧ w'.cell? ⟨jb, 1, none⟩ = some (.int .i64 (half : Int))) (by kernel_rfl) (⟨ch0.out, ch1.out⟩) (fun hHeld => ?_)
  try simp only [List.size_toArray, List.length_cons, List.length_nil, Nat.reduceAdd, Array.replicate_succ, Array.replicate_zero, List.push_toArray, List.nil_append, List.cons_append]
  refine wpAnyH_take (i := 0) (oi := { dst := some 48, op := Op.move (Operand.tmp 0), type := 26, pos := "journal.go:166", after := #[], guard := none }) (v := ?v1001) rfl (by kernel_rfl) (by kernel_rfl) (by kernel_rfl) (fun _ _ _ h => h) (Or.inl ⟨by rfl, ?hy1001⟩) hHeld ?_
  case hy1001 => (intro w hSw; (try dsimp only at hSw); go_simp; (try with_reducible rfl))
  (try simp only [Act.put, List.setIfInBounds_toArray, List.set_cons_zero, List.set_cons_succ])
  refine wpAnyH_take (i := 1) (oi := { dst := some 49, op := Op.nilCheck (Operand.tmp 48), type := 0, pos := "journal.go:166", after := #[{ on := 0, ground := Ground.data }], guard := none }) (v := ?v1002) rfl (by kernel_rfl) (by kernel_rfl) (by kernel_rfl) (fun _ _ _ h => h) (Or.inl ⟨by rfl, ?hy1002⟩) hHeld ?_
  case hy1002 => (intro w hSw; (try dsimp only at hSw); go_simp; (try with_reducible rfl))
  (try simp only [Act.put, List.setIfInBounds_toArray, List.set_cons_zero, List.set_cons_succ])
  refine wpAnyH_take (i := 2) (oi := { dst := some 50, op := Op.fieldAddr 64 (Operand.tmp 49) 0, type := 0, pos := "journal.go:166", after := #[{ on := 1, ground := Ground.data }], guard := none }) (v := ?v1003) rfl (by kernel_rfl) (by kernel_rfl) (by kernel_rfl) (fun _ _ _ h => h) (Or.inl ⟨by rfl, ?hy1003⟩) hHeld ?_
  case hy1003 => (intro w hSw; (try dsimp only at hSw); go_simp; (try with_reducible rfl))
  (try simp only [Act.put, List.setIfInBounds_toArray, List.set_cons_zero, List.set_cons_succ])
  refine wpAnyH_take (i := 3) (oi := { dst := some 51, op := Op.load 24 (Operand.tmp 50), type := 24, pos := "journal.go:166", after := #[{ on := 2, ground := Ground.data }], guard := none }) (v := (.pointer (some ⟨db, 0, none⟩))) rfl (by kernel_rfl) (by kernel_rfl) (by kernel_rfl) (fun _ _ _ h => h) (Or.inl ⟨by rfl, fun w h => by have c9 := h.1; go_simp⟩) hHeld ?_
  (try simp only [Act.put, List.setIfInBounds_toArray, List.set_cons_zero, List.set_cons_succ])
  refine wpAnyH_take (i := 4) (oi := { dst := some 52, op := Op.move (Operand.tmp 0), type := 26, pos := "journal.go:166", after := #[], guard := none }) (v := ?v1004) rfl (by kernel_rfl) (by kernel_rfl) (by kernel_rfl) (fun _ _ _ h => h) (Or.inl ⟨by rfl, ?hy1004⟩) hHeld ?_
  case hy1004 => (intro w hSw; (try dsimp only at hSw); go_simp; (try with_reducible rfl))
  (try simp only [Act.put, List.setIfInBounds_toArray, List.set_cons_zero, List.set_cons_succ])
  refine wpAnyH_take (i := 5) (oi := { dst := some 53, op := Op.nilCheck (Operand.tmp 52), type := 0, pos := "journal.go:166", after := #[{ on := 4, ground := Ground.data }], guard := none }) (v := ?v1005) rfl (by kernel_rfl) (by kernel_rfl) (by kernel_rfl) (fun _ _ _ h => h) (Or.inl ⟨by rfl, ?hy1005⟩) hHeld ?_
  case hy1005 => (intro w hSw; (try dsimp only at hSw); go_simp; (try with_reducible rfl))
  (try simp only [Act.put, List.setIfInBounds_toArray, List.set_cons_zero, List.set_cons_succ])
  refine wpAnyH_take (i := 6) (oi := { dst := some 54, op := Op.fieldAddr 64 (Operand.tmp 53) 1, type := 0, pos := "journal.go:166", after := #[{ on := 5, ground := Ground.data }], guard := none }) (v := ?v1006) rfl (by kernel_rfl) (by kernel_rfl) (by kernel_rfl) (fun _ _ _ h => h) (Or.inl ⟨by rfl, ?hy1006⟩) hHeld ?_
  case hy1006 => (intro w hSw; (try dsimp only at hSw); go_simp; (try with_reducible rfl))
  (try simp only [Act.put, List.setIfInBounds_toArray, List.set_cons_zero, List.set_cons_succ])
  refine wpAnyH_take (i := 7) (oi := { dst := some 55, op := Op.load 3 (Operand.tmp 54), type := 3, pos := "journal.go:166", after := #[{ on := 6, ground := Ground.data }], guard := none }) (v := (.int .i64 (half : Int))) rfl (by kernel_rfl) (by kernel_rfl) (by kernel_rfl) (fun _ _ _ h => h) (Or.inl ⟨by rfl, fun w h => by have c9 := h.2; go_simp⟩) hHeld ?_
  (try simp only [Act.put, List.setIfInBounds_toArray, List.set_cons_zero, List.set_cons_succ])
  refine wpAnyH_take (i := 8) (oi := { dst := some 56, op := Op.binOp BinOp.sub 3 (Operand.const (Value.int IntKind.i64 1)) (Operand.tmp 55) 3, type := 3, pos := "journal.go:166", after := #[{ on := 7, ground := Ground.data }], guard := none }) (v := ?v1007) rfl (by kernel_rfl) (by kernel_rfl) (by kernel_rfl) (fun _ _ _ h => h) (Or.inl ⟨by rfl, ?hy1007⟩) hHeld ?_
  case hy1007 => (intro w hSw; (try dsimp only at hSw); go_simp; (try with_reducible rfl))
  (try simp only [Act.put, List.setIfInBounds_toArray, List.set_cons_zero, List.set_cons_succ])
  refine wpAnyH_take (i := 9) (oi := { dst := some 57, op := Op.move (Operand.tmp 5), type := 22, pos := "journal.go:166", after := #[], guard := none }) (v := ?v1008) rfl (by kernel_rfl) (by kernel_rfl) (by kernel_rfl) (fun _ _ _ h => h) (Or.inl ⟨by rfl, ?hy1008⟩) hHeld ?_
  case hy1008 => (intro w hSw; (try dsimp only at hSw); go_simp; (try with_reducible rfl))
  (try simp only [Act.put, List.setIfInBounds_toArray, List.set_cons_zero, List.set_cons_succ])
  refine wpAnyH_ready (rs := [10]) (by kernel_rfl) (by simp) ?_
  refine AllReadyH.cons (o := { dst := some 58, op := Op.call { callee := Callee.value (Operand.func 28), args := #[Operand.tmp 51, Operand.tmp 56, Operand.const (Value.int IntKind.i64 0), Operand.tmp 57], argTypes := #[24, 3, 3, 22] }, type := 27, pos := "journal.go:166", after := #[{ on := 3, ground := Ground.data }, { on := 8, ground := Ground.data }, { on := 9, ground := Ground.data }], guard := none }) rfl (fun K hK => ?_) ?_
  go_simp; have JL := jlay_walk (D4.out.below (Below.refl _ _).drew) hf (by have := HF.out; omega) 0 g1 k1 m (recB z32 bs) (by have := ByA.own (Below.ownK O4.out (Below.refl _ _).drew) (recB_lt z32 bs B8.out); rw [HN64.out] at this; exact this) HML.out.1 (by have := FIT.out; have := SZ.out; omega); rw [← HN64.out] at JL; refine JL.mono ?_; clear JL; rintro e w5 ⟨rfl, d5, k5⟩; have D5 := hid d5; have K5 := hid k5; clear d5 k5
  refine hK.out _ _ (⟨K5.out.cell hHeld.1 hnj.out, K5.out.cell hHeld.2 hnj.out⟩) (fun hHeld => ?_)
  clear hK K
  (try simp only [List.setIfInBounds_toArray, List.set_cons_zero, List.set_cons_succ])
  refine wpAnyH_take (i := 11) (oi := { dst := some 7, op := Op.assign (Operand.tmp 58), type := 27, pos := "journal.go:166", after := #[{ on := 10, ground := Ground.data }, { on := 10, ground := Ground.chain }, { on := 0, ground := Ground.phase }, { on := 1, ground := Ground.phase }, { on := 2, ground := Ground.phase }, { on := 3, ground := Ground.phase }, { on := 4, ground := Ground.phase }, { on := 5, ground := Ground.phase }, { on := 6, ground := Ground.phase }, { on := 7, ground := Ground.phase }, { on := 8, ground := Ground.phase }, { on := 9, ground := Ground.phase }, { on := 10, ground := Ground.phase }], guard := none }) (v := ?v1009) rfl (by kernel_rfl) (by kernel_rfl) (by kernel_rfl) (fun _ _ _ h => h) (Or.inl ⟨by rfl, ?hy1009⟩) hHeld ?_
  case hy1009 => (intro w hSw; (try dsimp only at hSw); go_simp; (try with_reducible rfl))
  (try simp only [Act.put, List.setIfInBounds_toArray, List.set_cons_zero, List.set_cons_succ])
  refine wpAnyH_done (by kernel_rfl) ?_ _
  rotate_left
  exact AllReadyH.nil
  clear hHeld ch0 ch1
  go_upto_region 12 with (fail)
  have KK5 := hid (show Keep (fun i => i = db ∨ sd.ownBlock = some i) w w5 from (Keep.of B4.out).trans ((Keep.of (Below.refl _ _).drew).trans K5.out))
  have J5 := hid (J0.out.keep KK5.out hnj.out)
  have H5 := hid (show w5.heap[w3.heap.size]? = _ from (show Keep (fun i => i = db ∨ sd.ownBlock = some i) w4 w5 from (Keep.of (Below.refl _ _).drew).trans K5.out).heap H4.out hnV.out)
  have hneV := hid (show w3.heap.size ≠ jb by have := J0.out.lt; have := Wlt.out; omega)
  clear J4 H4 K5 D4 O4
  refine wp_region_X (l := 20) (S := fun b w' => w'.rangeAt w3.heap.size 0 (nums .u8 (recH z32 bs)) ∧ (b = false → w'.cell? ⟨jb, 1, none⟩ = some (.int .i64 (half : Int)) ∧ w'.cell? ⟨jb, 3, none⟩ = some (.int .u64 (turn : Int)))) (by kernel_rfl) (⟨row_range H5.out, fun _ => ⟨J5.out.c1, J5.out.c3⟩⟩) (fun hHeld => ?_)
  try simp only [List.size_toArray, List.length_cons, List.length_nil, Nat.reduceAdd, Array.replicate_succ, Array.replicate_zero, List.push_toArray, List.nil_append, List.cons_append]
  refine wpAnyX_takeE (i := 0) (oi := { dst := some 65, op := Op.move (Operand.tmp 0), type := 26, pos := "journal.go:170", after := #[], guard := none }) (v := ?v2001) rfl (by kernel_rfl) (by kernel_rfl) (by kernel_rfl) (fun _ _ _ h => h) rfl (by kernel_rfl) (by kernel_rfl) (by kernel_rfl) (Or.inl ⟨by rfl, ?hy2001⟩) hHeld ?_
  case hy2001 => (intro w hSw; (try dsimp only at hSw); go_simp; (try with_reducible rfl))
  (try simp only [Act.put, List.setIfInBounds_toArray, List.set_cons_zero, List.set_cons_succ])
  refine wpAnyX_takeA (i := 1) (oi := { dst := some 66, op := Op.move (Operand.tmp 0), type := 26, pos := "journal.go:170", after := #[{ on := 20, ground := Ground.gcOnly Departure.lateStores }], guard := none }) (v := ?v2002) rfl (by kernel_rfl) (by kernel_rfl) (by kernel_rfl) (fun _ _ _ h => h) rfl (by kernel_rfl) (fun _ h => ⟨h.1, nofun⟩) (b := false) (by kernel_rfl) (Or.inl ⟨by rfl, ?hy2002⟩) hHeld ?_
  case hy2002 => (intro w hSw; (try dsimp only at hSw); go_simp; (try with_reducible rfl))
  (try simp only [Act.put, List.setIfInBounds_toArray, List.set_cons_zero, List.set_cons_succ])
  refine wpAnyX_takeA (i := 2) (oi := { dst := some 67, op := Op.move (Operand.tmp 0), type := 26, pos := "journal.go:170", after := #[{ on := 23, ground := Ground.gcOnly Departure.lateStores }], guard := none }) (v := ?v2003) rfl (by kernel_rfl) (by kernel_rfl) (by kernel_rfl) (fun _ _ _ h => h) rfl (by kernel_rfl) (fun _ h => ⟨h.1, nofun⟩) (b := false) (by kernel_rfl) (Or.inl ⟨by rfl, ?hy2003⟩) hHeld ?_
  case hy2003 => (intro w hSw; (try dsimp only at hSw); go_simp; (try with_reducible rfl))
  (try simp only [Act.put, List.setIfInBounds_toArray, List.set_cons_zero, List.set_cons_succ])
  refine wpAnyX_takeA (i := 3) (oi := { dst := some 68, op := Op.move (Operand.tmp 0), type := 26, pos := "journal.go:170", after := #[{ on := 26, ground := Ground.gcOnly Departure.lateStores }], guard := none }) (v := ?v2004) rfl (by kernel_rfl) (by kernel_rfl) (by kernel_rfl) (fun _ _ _ h => h) rfl (by kernel_rfl) (fun _ h => ⟨h.1, nofun⟩) (b := false) (by kernel_rfl) (Or.inl ⟨by rfl, ?hy2004⟩) hHeld ?_
  case hy2004 => (intro w hSw; (try dsimp only at hSw); go_simp; (try with_reducible rfl))
  (try simp only [Act.put, List.setIfInBounds_toArray, List.set_cons_zero, List.set_cons_succ])
  refine wpAnyX_takeE (i := 4) (oi := { dst := some 69, op := Op.move (Operand.tmp 0), type := 26, pos := "journal.go:170", after := #[], guard := none }) (v := ?v2005) rfl (by kernel_rfl) (by kernel_rfl) (by kernel_rfl) (fun _ _ _ h => h) rfl (by kernel_rfl) (by kernel_rfl) (by kernel_rfl) (Or.inl ⟨by rfl, ?hy2005⟩) hHeld ?_
  case hy2005 => (intro w hSw; (try dsimp only at hSw); go_simp; (try with_reducible rfl))
  (try simp only [Act.put, List.setIfInBounds_toArray, List.set_cons_zero, List.set_cons_succ])
  refine wpAnyX_takeE (i := 5) (oi := { dst := some 70, op := Op.nilCheck (Operand.tmp 69), type := 0, pos := "journal.go:170", after := #[{ on := 4, ground := Ground.data }], guard := none }) (v := ?v2006) rfl (by kernel_rfl) (by kernel_rfl) (by kernel_rfl) (fun _ _ _ h => h) rfl (by kernel_rfl) (by kernel_rfl) (by kernel_rfl) (Or.inl ⟨by rfl, ?hy2006⟩) hHeld ?_
  case hy2006 => (intro w hSw; (try dsimp only at hSw); go_simp; (try with_reducible rfl))
  (try simp only [Act.put, List.setIfInBounds_toArray, List.set_cons_zero, List.set_cons_succ])
  refine wpAnyX_takeE (i := 6) (oi := { dst := some 71, op := Op.fieldAddr 64 (Operand.tmp 70) 1, type := 0, pos := "journal.go:170", after := #[{ on := 5, ground := Ground.data }], guard := none }) (v := ?v2007) rfl (by kernel_rfl) (by kernel_rfl) (by kernel_rfl) (fun _ _ _ h => h) rfl (by kernel_rfl) (by kernel_rfl) (by kernel_rfl) (Or.inl ⟨by rfl, ?hy2007⟩) hHeld ?_
  case hy2007 => (intro w hSw; (try dsimp only at hSw); go_simp; (try with_reducible rfl))
  (try simp only [Act.put, List.setIfInBounds_toArray, List.set_cons_zero, List.set_cons_succ])
  refine wpAnyX_takeE (i := 7) (oi := { dst := some 72, op := Op.load 3 (Operand.tmp 71), type := 3, pos := "journal.go:170", after := #[{ on := 6, ground := Ground.data }], guard := none }) (v := (.int .i64 (half : Int))) rfl (by kernel_rfl) (by kernel_rfl) (by kernel_rfl) (fun _ _ _ h => h) rfl (by kernel_rfl) (by kernel_rfl) (by kernel_rfl) (Or.inl ⟨by rfl, fun w h => by have c9 := (h.2 rfl).1; go_simp⟩) hHeld ?_
  (try simp only [Act.put, List.setIfInBounds_toArray, List.set_cons_zero, List.set_cons_succ])
  refine wpAnyX_takeE (i := 8) (oi := { dst := some 73, op := Op.binOp BinOp.sub 3 (Operand.const (Value.int IntKind.i64 1)) (Operand.tmp 72) 3, type := 3, pos := "journal.go:170", after := #[{ on := 7, ground := Ground.data }], guard := none }) (v := ?v2008) rfl (by kernel_rfl) (by kernel_rfl) (by kernel_rfl) (fun _ _ _ h => h) rfl (by kernel_rfl) (by kernel_rfl) (by kernel_rfl) (Or.inl ⟨by rfl, ?hy2008⟩) hHeld ?_
  case hy2008 => (intro w hSw; (try dsimp only at hSw); go_simp; (try with_reducible rfl))
  (try simp only [Act.put, List.setIfInBounds_toArray, List.set_cons_zero, List.set_cons_succ])
  refine wpAnyX_takeA (i := 9) (oi := { dst := some 74, op := Op.move (Operand.tmp 5), type := 22, pos := "journal.go:170", after := #[], guard := none }) (v := ?v2009) rfl (by kernel_rfl) (by kernel_rfl) (by kernel_rfl) (fun _ _ _ h => h) rfl (by kernel_rfl) (fun _ h => ⟨h.1, nofun⟩) (b := false) (by kernel_rfl) (Or.inl ⟨by rfl, ?hy2009⟩) hHeld ?_
  case hy2009 => (intro w hSw; (try dsimp only at hSw); go_simp; (try with_reducible rfl))
  (try simp only [Act.put, List.setIfInBounds_toArray, List.set_cons_zero, List.set_cons_succ])
  refine wpAnyX_takeA (i := 10) (oi := { dst := some 75, op := Op.call { callee := Callee.builtin Builtin.len, args := #[Operand.tmp 74], argTypes := #[22] }, type := 3, pos := "journal.go:170", after := #[{ on := 9, ground := Ground.data }], guard := none }) (v := (.int .i64 (n64 : Int))) rfl (by kernel_rfl) (by kernel_rfl) (by kernel_rfl) (fun _ _ _ h => h) rfl (by kernel_rfl) (fun _ h => ⟨h.1, nofun⟩) (b := false) (by kernel_rfl) (Or.inl ⟨by rfl, fun w _ => by go_simp⟩) hHeld ?_
  (try simp only [Act.put, List.setIfInBounds_toArray, List.set_cons_zero, List.set_cons_succ])
  refine wpAnyX_takeA (i := 11) (oi := { dst := some 76, op := Op.binOp BinOp.quo 3 (Operand.tmp 75) (Operand.const (Value.int IntKind.i64 64)) 3, type := 3, pos := "journal.go:170", after := #[{ on := 10, ground := Ground.data }, { on := 20, ground := Ground.gcOnly Departure.lateStores }], guard := none }) (v := ?v2010) rfl (by kernel_rfl) (by kernel_rfl) (by kernel_rfl) (fun _ _ _ h => h) rfl (by kernel_rfl) (fun _ h => ⟨h.1, nofun⟩) (b := false) (by kernel_rfl) (Or.inl ⟨by rfl, ?hy2010⟩) hHeld ?_
  case hy2010 => (intro w hSw; (try dsimp only at hSw); go_simp; (try with_reducible rfl))
  (try simp only [Act.put, List.setIfInBounds_toArray, List.set_cons_zero, List.set_cons_succ])
  refine wpAnyX_takeA (i := 12) (oi := { dst := some 77, op := Op.move (Operand.tmp 0), type := 26, pos := "journal.go:170", after := #[], guard := none }) (v := ?v2011) rfl (by kernel_rfl) (by kernel_rfl) (by kernel_rfl) (fun _ _ _ h => h) rfl (by kernel_rfl) (fun _ h => ⟨h.1, nofun⟩) (b := false) (by kernel_rfl) (Or.inl ⟨by rfl, ?hy2011⟩) hHeld ?_
  case hy2011 => (intro w hSw; (try dsimp only at hSw); go_simp; (try with_reducible rfl))
  (try simp only [Act.put, List.setIfInBounds_toArray, List.set_cons_zero, List.set_cons_succ])
  refine wpAnyX_takeA (i := 13) (oi := { dst := some 78, op := Op.nilCheck (Operand.tmp 77), type := 0, pos := "journal.go:170", after := #[{ on := 12, ground := Ground.data }], guard := none }) (v := ?v2012) rfl (by kernel_rfl) (by kernel_rfl) (by kernel_rfl) (fun _ _ _ h => h) rfl (by kernel_rfl) (fun _ h => ⟨h.1, nofun⟩) (b := false) (by kernel_rfl) (Or.inl ⟨by rfl, ?hy2012⟩) hHeld ?_
  case hy2012 => (intro w hSw; (try dsimp only at hSw); go_simp; (try with_reducible rfl))
  (try simp only [Act.put, List.setIfInBounds_toArray, List.set_cons_zero, List.set_cons_succ])
  refine wpAnyX_takeA (i := 14) (oi := { dst := some 79, op := Op.fieldAddr 64 (Operand.tmp 78) 3, type := 0, pos := "journal.go:170", after := #[{ on := 13, ground := Ground.data }], guard := none }) (v := ?v2013) rfl (by kernel_rfl) (by kernel_rfl) (by kernel_rfl) (fun _ _ _ h => h) rfl (by kernel_rfl) (fun _ h => ⟨h.1, nofun⟩) (b := false) (by kernel_rfl) (Or.inl ⟨by rfl, ?hy2013⟩) hHeld ?_
  case hy2013 => (intro w hSw; (try dsimp only at hSw); go_simp; (try with_reducible rfl))
  (try simp only [Act.put, List.setIfInBounds_toArray, List.set_cons_zero, List.set_cons_succ])
  refine wpAnyX_takeE (i := 15) (oi := { dst := some 80, op := Op.load 60 (Operand.tmp 79), type := 60, pos := "journal.go:170", after := #[{ on := 14, ground := Ground.data }], guard := none }) (v := (.int .u64 (turn : Int))) rfl (by kernel_rfl) (by kernel_rfl) (by kernel_rfl) (fun _ _ _ h => h) rfl (by kernel_rfl) (by kernel_rfl) (by kernel_rfl) (Or.inl ⟨by rfl, fun w h => by have c9 := (h.2 rfl).2; go_simp⟩) hHeld ?_
  (try simp only [Act.put, List.setIfInBounds_toArray, List.set_cons_zero, List.set_cons_succ])
  refine wpAnyX_takeA (i := 16) (oi := { dst := some 81, op := Op.binOp BinOp.add 60 (Operand.tmp 80) (Operand.const (Value.int IntKind.u64 1)) 60, type := 60, pos := "journal.go:170", after := #[{ on := 15, ground := Ground.data }], guard := none }) (v := ?v2014) rfl (by kernel_rfl) (by kernel_rfl) (by kernel_rfl) (fun _ _ _ h => h) rfl (by kernel_rfl) (fun _ h => ⟨h.1, nofun⟩) (b := false) (by kernel_rfl) (Or.inl ⟨by rfl, ?hy2014⟩) hHeld ?_
  case hy2014 => (intro w hSw; (try dsimp only at hSw); go_simp; (try with_reducible rfl))
  (try simp only [Act.put, List.setIfInBounds_toArray, List.set_cons_zero, List.set_cons_succ])
  refine' wpAnyX_takeA (i := 17) (oi := { dst := some 82, op := Op.load 62 (Operand.tmp 6), type := 62, pos := "journal.go:170", after := #[{ on := 26, ground := Ground.gcOnly Departure.lateStores }], guard := none }) (v := _) rfl (by kernel_rfl) (by kernel_rfl) (by kernel_rfl) (fun _ _ _ h => h) rfl (by kernel_rfl) (fun _ h => ⟨h.1, nofun⟩) (b := false) (by kernel_rfl) (yieldsIf_load_mid (by rfl) _ _ rfl w3.heap.size 0 rfl (nums .u8 (recH z32 bs)) _ (fun _ h => h.1) Tryz.underlying62 rfl hiZl.out) hHeld ?_
  (try simp only [Act.put, List.setIfInBounds_toArray, List.set_cons_zero, List.set_cons_succ])
  refine wpAnyX_takeA (i := 18) (oi := { dst := some 83, op := Op.nilCheck (Operand.tmp 65), type := 0, pos := "journal.go:170", after := #[{ on := 0, ground := Ground.data }, { on := 0, ground := Ground.phase }, { on := 1, ground := Ground.textOnly Departure.lateStores }, { on := 2, ground := Ground.textOnly Departure.lateStores }, { on := 3, ground := Ground.textOnly Departure.lateStores }, { on := 4, ground := Ground.phase }, { on := 5, ground := Ground.phase }, { on := 6, ground := Ground.phase }, { on := 7, ground := Ground.phase }, { on := 8, ground := Ground.phase }, { on := 9, ground := Ground.textOnly Departure.lateStores }, { on := 10, ground := Ground.textOnly Departure.lateStoresUnsure }, { on := 11, ground := Ground.textOnly Departure.lateStores }, { on := 12, ground := Ground.textOnly Departure.lateStores }, { on := 13, ground := Ground.textOnly Departure.lateStoresUnsure }, { on := 14, ground := Ground.textOnly Departure.lateStoresUnsure }, { on := 15, ground := Ground.phase }, { on := 16, ground := Ground.textOnly Departure.lateStoresUnsure }, { on := 17, ground := Ground.textOnly Departure.lateStores }], guard := none }) (v := ?v2015) rfl (by kernel_rfl) (by kernel_rfl) (by kernel_rfl) (fun _ _ _ h => h) rfl (by kernel_rfl) (fun _ h => ⟨h.1, nofun⟩) (b := false) (by kernel_rfl) (Or.inl ⟨by rfl, ?hy2015⟩) hHeld ?_
  case hy2015 => (intro w hSw; (try dsimp only at hSw); go_simp; (try with_reducible rfl))
  (try simp only [Act.put, List.setIfInBounds_toArray, List.set_cons_zero, List.set_cons_succ])
  refine wpAnyX_takeE (i := 19) (oi := { dst := some 84, op := Op.fieldAddr 64 (Operand.tmp 83) 1, type := 0, pos := "journal.go:170", after := #[{ on := 18, ground := Ground.data }, { on := 0, ground := Ground.phase }, { on := 1, ground := Ground.textOnly Departure.lateStores }, { on := 2, ground := Ground.textOnly Departure.lateStores }, { on := 3, ground := Ground.textOnly Departure.lateStores }, { on := 4, ground := Ground.phase }, { on := 5, ground := Ground.phase }, { on := 6, ground := Ground.phase }, { on := 7, ground := Ground.phase }, { on := 8, ground := Ground.phase }, { on := 9, ground := Ground.textOnly Departure.lateStores }, { on := 10, ground := Ground.textOnly Departure.lateStoresUnsure }, { on := 11, ground := Ground.textOnly Departure.lateStores }, { on := 12, ground := Ground.textOnly Departure.lateStores }, { on := 13, ground := Ground.textOnly Departure.lateStoresUnsure }, { on := 14, ground := Ground.textOnly Departure.lateStoresUnsure }, { on := 15, ground := Ground.phase }, { on := 16, ground := Ground.textOnly Departure.lateStoresUnsure }, { on := 17, ground := Ground.textOnly Departure.lateStores }], guard := none }) (v := ?v2016) rfl (by kernel_rfl) (by kernel_rfl) (by kernel_rfl) (fun _ _ _ h => h) rfl (by kernel_rfl) (by kernel_rfl) (by kernel_rfl) (Or.inl ⟨by rfl, ?hy2016⟩) hHeld ?_
  case hy2016 => (intro w hSw; (try dsimp only at hSw); go_simp; (try with_reducible rfl))
  (try simp only [Act.put, List.setIfInBounds_toArray, List.set_cons_zero, List.set_cons_succ])
  refine wpAnyX_ready (rs := [20]) (by kernel_rfl) (by simp) ?_
  refine AllReadyX.cons (o := { dst := none, op := Op.store 3 (Operand.tmp 84) (Operand.tmp 73), type := 0, pos := "journal.go:170", after := #[{ on := 19, ground := Ground.data }, { on := 8, ground := Ground.data }, { on := 0, ground := Ground.phase }, { on := 1, ground := Ground.textOnly Departure.lateStores }, { on := 2, ground := Ground.textOnly Departure.lateStores }, { on := 3, ground := Ground.textOnly Departure.lateStores }, { on := 4, ground := Ground.phase }, { on := 5, ground := Ground.phase }, { on := 6, ground := Ground.phase }, { on := 7, ground := Ground.phase }, { on := 8, ground := Ground.phase }, { on := 9, ground := Ground.textOnly Departure.lateStores }, { on := 10, ground := Ground.textOnly Departure.lateStoresUnsure }, { on := 11, ground := Ground.textOnly Departure.lateStores }, { on := 12, ground := Ground.textOnly Departure.lateStores }, { on := 13, ground := Ground.textOnly Departure.lateStoresUnsure }, { on := 14, ground := Ground.textOnly Departure.lateStoresUnsure }, { on := 15, ground := Ground.phase }, { on := 16, ground := Ground.textOnly Departure.lateStoresUnsure }, { on := 17, ground := Ground.textOnly Departure.lateStores }], guard := none }) rfl (b := true) (by kernel_rfl) (fun K hK => ?_) ?_
  have jd := J5.out.below (Below.refl _ _).drew; have c9 := jd.c1; have z9 := jd.fz 1; go_simp; refine jd.set1 _ ?_; intro w8 J8 F8; clear jd c9 z9
  refine hK.out _ _ (⟨range_far F8.out hHeld.1 hneV.out, nofun⟩) (fun hHeld => ?_)
  clear hK K
  (try simp only [List.setIfInBounds_toArray, List.set_cons_zero, List.set_cons_succ])
  refine wpAnyX_takeA (i := 21) (oi := { dst := some 85, op := Op.nilCheck (Operand.tmp 66), type := 0, pos := "journal.go:170", after := #[{ on := 1, ground := Ground.data }, { on := 0, ground := Ground.phase }, { on := 1, ground := Ground.phase }, { on := 2, ground := Ground.textOnly Departure.lateStores }, { on := 3, ground := Ground.textOnly Departure.lateStores }, { on := 4, ground := Ground.phase }, { on := 5, ground := Ground.phase }, { on := 6, ground := Ground.phase }, { on := 7, ground := Ground.phase }, { on := 8, ground := Ground.phase }, { on := 9, ground := Ground.phase }, { on := 10, ground := Ground.phase }, { on := 11, ground := Ground.phase }, { on := 12, ground := Ground.textOnly Departure.lateStores }, { on := 13, ground := Ground.textOnly Departure.lateStoresUnsure }, { on := 14, ground := Ground.textOnly Departure.lateStoresUnsure }, { on := 15, ground := Ground.phase }, { on := 16, ground := Ground.textOnly Departure.lateStoresUnsure }, { on := 17, ground := Ground.textOnly Departure.lateStores }, { on := 18, ground := Ground.phase }, { on := 19, ground := Ground.phase }, { on := 20, ground := Ground.phase }], guard := none }) (v := ?v2017) rfl (by kernel_rfl) (by kernel_rfl) (by kernel_rfl) (fun _ _ _ h => h) rfl (by kernel_rfl) (fun _ h => ⟨h.1, nofun⟩) (b := true) (by kernel_rfl) (Or.inl ⟨by rfl, ?hy2017⟩) hHeld ?_
  case hy2017 => (intro w hSw; (try dsimp only at hSw); go_simp; (try with_reducible rfl))
  (try simp only [Act.put, List.setIfInBounds_toArray, List.set_cons_zero, List.set_cons_succ])
  refine wpAnyX_takeA (i := 22) (oi := { dst := some 86, op := Op.fieldAddr 64 (Operand.tmp 85) 2, type := 0, pos := "journal.go:170", after := #[{ on := 21, ground := Ground.data }, { on := 0, ground := Ground.phase }, { on := 1, ground := Ground.phase }, { on := 2, ground := Ground.textOnly Departure.lateStores }, { on := 3, ground := Ground.textOnly Departure.lateStores }, { on := 4, ground := Ground.phase }, { on := 5, ground := Ground.phase }, { on := 6, ground := Ground.phase }, { on := 7, ground := Ground.phase }, { on := 8, ground := Ground.phase }, { on := 9, ground := Ground.phase }, { on := 10, ground := Ground.phase }, { on := 11, ground := Ground.phase }, { on := 12, ground := Ground.textOnly Departure.lateStores }, { on := 13, ground := Ground.textOnly Departure.lateStoresUnsure }, { on := 14, ground := Ground.textOnly Departure.lateStoresUnsure }, { on := 15, ground := Ground.phase }, { on := 16, ground := Ground.textOnly Departure.lateStoresUnsure }, { on := 17, ground := Ground.textOnly Departure.lateStores }, { on := 18, ground := Ground.phase }, { on := 19, ground := Ground.phase }, { on := 20, ground := Ground.phase }], guard := none }) (v := ?v2018) rfl (by kernel_rfl) (by kernel_rfl) (by kernel_rfl) (fun _ _ _ h => h) rfl (by kernel_rfl) (fun _ h => ⟨h.1, nofun⟩) (b := true) (by kernel_rfl) (Or.inl ⟨by rfl, ?hy2018⟩) hHeld ?_
  case hy2018 => (intro w hSw; (try dsimp only at hSw); go_simp; (try with_reducible rfl))
  (try simp only [Act.put, List.setIfInBounds_toArray, List.set_cons_zero, List.set_cons_succ])
  refine wpAnyX_ready (rs := [23]) (by kernel_rfl) (by simp) ?_
  refine AllReadyX.cons (o := { dst := none, op := Op.store 3 (Operand.tmp 86) (Operand.tmp 76), type := 0, pos := "journal.go:170", after := #[{ on := 22, ground := Ground.data }, { on := 11, ground := Ground.data }, { on := 20, ground := Ground.chain }, { on := 0, ground := Ground.phase }, { on := 1, ground := Ground.phase }, { on := 2, ground := Ground.textOnly Departure.lateStores }, { on := 3, ground := Ground.textOnly Departure.lateStores }, { on := 4, ground := Ground.phase }, { on := 5, ground := Ground.phase }, { on := 6, ground := Ground.phase }, { on := 7, ground := Ground.phase }, { on := 8, ground := Ground.phase }, { on := 9, ground := Ground.phase }, { on := 10, ground := Ground.phase }, { on := 11, ground := Ground.phase }, { on := 12, ground := Ground.textOnly Departure.lateStores }, { on := 13, ground := Ground.textOnly Departure.lateStoresUnsure }, { on := 14, ground := Ground.textOnly Departure.lateStoresUnsure }, { on := 15, ground := Ground.phase }, { on := 16, ground := Ground.textOnly Departure.lateStoresUnsure }, { on := 17, ground := Ground.textOnly Departure.lateStores }, { on := 18, ground := Ground.phase }, { on := 19, ground := Ground.phase }, { on := 20, ground := Ground.phase }], guard := none }) rfl (b := true) (by kernel_rfl) (fun K hK => ?_) ?_
  have c9 := J8.out.c2; have z9 := J8.out.fz 2; go_simp; refine J8.out.set2 _ ?_; intro w9 J9 F9; clear c9 z9
  refine hK.out _ _ (⟨range_far F9.out hHeld.1 hneV.out, nofun⟩) (fun hHeld => ?_)
  clear hK K
  (try simp only [List.setIfInBounds_toArray, List.set_cons_zero, List.set_cons_succ])
  refine wpAnyX_takeA (i := 24) (oi := { dst := some 87, op := Op.nilCheck (Operand.tmp 67), type := 0, pos := "journal.go:170", after := #[{ on := 2, ground := Ground.data }, { on := 0, ground := Ground.phase }, { on := 1, ground := Ground.phase }, { on := 2, ground := Ground.phase }, { on := 3, ground := Ground.textOnly Departure.lateStores }, { on := 4, ground := Ground.phase }, { on := 5, ground := Ground.phase }, { on := 6, ground := Ground.phase }, { on := 7, ground := Ground.phase }, { on := 8, ground := Ground.phase }, { on := 9, ground := Ground.phase }, { on := 10, ground := Ground.phase }, { on := 11, ground := Ground.phase }, { on := 12, ground := Ground.phase }, { on := 13, ground := Ground.phase }, { on := 14, ground := Ground.phase }, { on := 15, ground := Ground.phase }, { on := 16, ground := Ground.phase }, { on := 17, ground := Ground.textOnly Departure.lateStores }, { on := 18, ground := Ground.phase }, { on := 19, ground := Ground.phase }, { on := 20, ground := Ground.phase }, { on := 21, ground := Ground.phase }, { on := 22, ground := Ground.phase }, { on := 23, ground := Ground.phase }], guard := none }) (v := ?v2019) rfl (by kernel_rfl) (by kernel_rfl) (by kernel_rfl) (fun _ _ _ h => h) rfl (by kernel_rfl) (fun _ h => ⟨h.1, nofun⟩) (b := true) (by kernel_rfl) (Or.inl ⟨by rfl, ?hy2019⟩) hHeld ?_
  case hy2019 => (intro w hSw; (try dsimp only at hSw); go_simp; (try with_reducible rfl))
  (try simp only [Act.put, List.setIfInBounds_toArray, List.set_cons_zero, List.set_cons_succ])
  refine wpAnyX_takeA (i := 25) (oi := { dst := some 88, op := Op.fieldAddr 64 (Operand.tmp 87) 3, type := 0, pos := "journal.go:170", after := #[{ on := 24, ground := Ground.data }, { on := 0, ground := Ground.phase }, { on := 1, ground := Ground.phase }, { on := 2, ground := Ground.phase }, { on := 3, ground := Ground.textOnly Departure.lateStores }, { on := 4, ground := Ground.phase }, { on := 5, ground := Ground.phase }, { on := 6, ground := Ground.phase }, { on := 7, ground := Ground.phase }, { on := 8, ground := Ground.phase }, { on := 9, ground := Ground.phase }, { on := 10, ground := Ground.phase }, { on := 11, ground := Ground.phase }, { on := 12, ground := Ground.phase }, { on := 13, ground := Ground.phase }, { on := 14, ground := Ground.phase }, { on := 15, ground := Ground.phase }, { on := 16, ground := Ground.phase }, { on := 17, ground := Ground.textOnly Departure.lateStores }, { on := 18, ground := Ground.phase }, { on := 19, ground := Ground.phase }, { on := 20, ground := Ground.phase }, { on := 21, ground := Ground.phase }, { on := 22, ground := Ground.phase }, { on := 23, ground := Ground.phase }], guard := none }) (v := ?v2020) rfl (by kernel_rfl) (by kernel_rfl) (by kernel_rfl) (fun _ _ _ h => h) rfl (by kernel_rfl) (fun _ h => ⟨h.1, nofun⟩) (b := true) (by kernel_rfl) (Or.inl ⟨by rfl, ?hy2020⟩) hHeld ?_
  case hy2020 => (intro w hSw; (try dsimp only at hSw); go_simp; (try with_reducible rfl))
  (try simp only [Act.put, List.setIfInBounds_toArray, List.set_cons_zero, List.set_cons_succ])
  refine wpAnyX_ready (rs := [26]) (by kernel_rfl) (by simp) ?_
  refine AllReadyX.cons (o := { dst := none, op := Op.store 60 (Operand.tmp 88) (Operand.tmp 81), type := 0, pos := "journal.go:170", after := #[{ on := 25, ground := Ground.data }, { on := 16, ground := Ground.data }, { on := 23, ground := Ground.chain }, { on := 0, ground := Ground.phase }, { on := 1, ground := Ground.phase }, { on := 2, ground := Ground.phase }, { on := 3, ground := Ground.textOnly Departure.lateStores }, { on := 4, ground := Ground.phase }, { on := 5, ground := Ground.phase }, { on := 6, ground := Ground.phase }, { on := 7, ground := Ground.phase }, { on := 8, ground := Ground.phase }, { on := 9, ground := Ground.phase }, { on := 10, ground := Ground.phase }, { on := 11, ground := Ground.phase }, { on := 12, ground := Ground.phase }, { on := 13, ground := Ground.phase }, { on := 14, ground := Ground.phase }, { on := 15, ground := Ground.phase }, { on := 16, ground := Ground.phase }, { on := 17, ground := Ground.textOnly Departure.lateStores }, { on := 18, ground := Ground.phase }, { on := 19, ground := Ground.phase }, { on := 20, ground := Ground.phase }, { on := 21, ground := Ground.phase }, { on := 22, ground := Ground.phase }, { on := 23, ground := Ground.phase }], guard := none }) rfl (b := true) (by kernel_rfl) (fun K hK => ?_) ?_
  have c9 := J9.out.c3; have z9 := J9.out.fz 3; go_simp; refine J9.out.set3 _ ?_; intro w10 J10 F10; clear c9 z9
  refine hK.out _ _ (⟨range_far F10.out hHeld.1 hneV.out, nofun⟩) (fun hHeld => ?_)
  clear hK K
  (try simp only [List.setIfInBounds_toArray, List.set_cons_zero, List.set_cons_succ])
  refine wpAnyX_takeA (i := 27) (oi := { dst := some 89, op := Op.nilCheck (Operand.tmp 68), type := 0, pos := "journal.go:170", after := #[{ on := 3, ground := Ground.data }, { on := 0, ground := Ground.phase }, { on := 1, ground := Ground.phase }, { on := 2, ground := Ground.phase }, { on := 3, ground := Ground.phase }, { on := 4, ground := Ground.phase }, { on := 5, ground := Ground.phase }, { on := 6, ground := Ground.phase }, { on := 7, ground := Ground.phase }, { on := 8, ground := Ground.phase }, { on := 9, ground := Ground.phase }, { on := 10, ground := Ground.phase }, { on := 11, ground := Ground.phase }, { on := 12, ground := Ground.phase }, { on := 13, ground := Ground.phase }, { on := 14, ground := Ground.phase }, { on := 15, ground := Ground.phase }, { on := 16, ground := Ground.phase }, { on := 17, ground := Ground.phase }, { on := 18, ground := Ground.phase }, { on := 19, ground := Ground.phase }, { on := 20, ground := Ground.phase }, { on := 21, ground := Ground.phase }, { on := 22, ground := Ground.phase }, { on := 23, ground := Ground.phase }, { on := 24, ground := Ground.phase }, { on := 25, ground := Ground.phase }, { on := 26, ground := Ground.phase }], guard := none }) (v := ?v2021) rfl (by kernel_rfl) (by kernel_rfl) (by kernel_rfl) (fun _ _ _ h => h) rfl (by kernel_rfl) (fun _ h => ⟨h.1, nofun⟩) (b := true) (by kernel_rfl) (Or.inl ⟨by rfl, ?hy2021⟩) hHeld ?_
  case hy2021 => (intro w hSw; (try dsimp only at hSw); go_simp; (try with_reducible rfl))
  (try simp only [Act.put, List.setIfInBounds_toArray, List.set_cons_zero, List.set_cons_succ])
  refine wpAnyX_takeA (i := 28) (oi := { dst := some 90, op := Op.fieldAddr 64 (Operand.tmp 89) 4, type := 0, pos := "journal.go:170", after := #[{ on := 27, ground := Ground.data }, { on := 0, ground := Ground.phase }, { on := 1, ground := Ground.phase }, { on := 2, ground := Ground.phase }, { on := 3, ground := Ground.phase }, { on := 4, ground := Ground.phase }, { on := 5, ground := Ground.phase }, { on := 6, ground := Ground.phase }, { on := 7, ground := Ground.phase }, { on := 8, ground := Ground.phase }, { on := 9, ground := Ground.phase }, { on := 10, ground := Ground.phase }, { on := 11, ground := Ground.phase }, { on := 12, ground := Ground.phase }, { on := 13, ground := Ground.phase }, { on := 14, ground := Ground.phase }, { on := 15, ground := Ground.phase }, { on := 16, ground := Ground.phase }, { on := 17, ground := Ground.phase }, { on := 18, ground := Ground.phase }, { on := 19, ground := Ground.phase }, { on := 20, ground := Ground.phase }, { on := 21, ground := Ground.phase }, { on := 22, ground := Ground.phase }, { on := 23, ground := Ground.phase }, { on := 24, ground := Ground.phase }, { on := 25, ground := Ground.phase }, { on := 26, ground := Ground.phase }], guard := none }) (v := ?v2022) rfl (by kernel_rfl) (by kernel_rfl) (by kernel_rfl) (fun _ _ _ h => h) rfl (by kernel_rfl) (fun _ h => ⟨h.1, nofun⟩) (b := true) (by kernel_rfl) (Or.inl ⟨by rfl, ?hy2022⟩) hHeld ?_
  case hy2022 => (intro w hSw; (try dsimp only at hSw); go_simp; (try with_reducible rfl))
  (try simp only [Act.put, List.setIfInBounds_toArray, List.set_cons_zero, List.set_cons_succ])
  refine wpAnyX_ready (rs := [29]) (by kernel_rfl) (by simp) ?_
  refine AllReadyX.cons (o := { dst := none, op := Op.store 62 (Operand.tmp 90) (Operand.tmp 82), type := 0, pos := "journal.go:170", after := #[{ on := 28, ground := Ground.data }, { on := 17, ground := Ground.data }, { on := 26, ground := Ground.chain }, { on := 0, ground := Ground.phase }, { on := 1, ground := Ground.phase }, { on := 2, ground := Ground.phase }, { on := 3, ground := Ground.phase }, { on := 4, ground := Ground.phase }, { on := 5, ground := Ground.phase }, { on := 6, ground := Ground.phase }, { on := 7, ground := Ground.phase }, { on := 8, ground := Ground.phase }, { on := 9, ground := Ground.phase }, { on := 10, ground := Ground.phase }, { on := 11, ground := Ground.phase }, { on := 12, ground := Ground.phase }, { on := 13, ground := Ground.phase }, { on := 14, ground := Ground.phase }, { on := 15, ground := Ground.phase }, { on := 16, ground := Ground.phase }, { on := 17, ground := Ground.phase }, { on := 18, ground := Ground.phase }, { on := 19, ground := Ground.phase }, { on := 20, ground := Ground.phase }, { on := 21, ground := Ground.phase }, { on := 22, ground := Ground.phase }, { on := 23, ground := Ground.phase }, { on := 24, ground := Ground.phase }, { on := 25, ground := Ground.phase }, { on := 26, ground := Ground.phase }], guard := none }) rfl (b := true) (by kernel_rfl) (fun K hK => ?_) ?_
  rw [if_pos (by rfl)]; refine wp_store_mid _ _ _ rfl jb 4 (nums .u8 (recH z32 bs)).toArray rfl rfl (by rw [← hoZ.out]; exact J10.out.there) hiZ.out hz1.out ?_; simp only []; refine J10.out.setC (recH z32 bs) hl32.out ?_; intro w11 J11 F11
  refine hK.out _ _ (⟨range_far F11.out hHeld.1 hneV.out, nofun⟩) (fun hHeld => ?_)
  clear hK K
  (try simp only [List.setIfInBounds_toArray, List.set_cons_zero, List.set_cons_succ])
  refine wpAnyX_done (by kernel_rfl) ?_ _
  rotate_left
  exact AllReadyX.nil
  exact AllReadyX.nil
  exact AllReadyX.nil
  exact AllReadyX.nil
  have FJ := hid (show Far jb w5 w11 from (((Far.of (H := jb) (Below.refl w5.heap.size w5).drew).trans F8.out).trans F9.out).trans (F10.out.trans F11.out))
  have KJ := hid (show Keep (fun i => i = db ∨ sd.ownBlock = some i ∨ i = jb) w w11 from (KK5.out.mono (fun i h => by rcases h with h | h; exact .inl h; exact .inr (.inl h))).trans ((Keep.far' FJ.out).mono (fun i h => .inr (.inr h))))
  have S11 := hid (HB.out w11 KJ.out)
  clear hHeld J8 J9 J10 F8 F9 F10 F11 H5
  go_wp2_with (fail)
  refine (clone8_walk a n c s w11 S11.out (by have := HN.out; omega)).mono ?_
  rintro e w12 ⟨v12, rfl, o12, b12⟩
  have O12 := hid o12
  have B12 := hid b12
  have J12 := hid (J11.out.below b12)
  have f36 := J12.out.fz 36
  have f37 := J12.out.fz 37
  have c36 := J12.out.c36
  have c37 := J12.out.c37
  obtain ⟨a12, k12, rfl, _⟩ := Rd.of_owns o12
  clear o12 b12
  go_wp2_with (fail)
  go_ret
  obtain ⟨J13, F13⟩ := J12.out.set36 (.slice a12 s.length k12) (A := ⟨#[], []⟩) (K := fun _ W => JB W jb db hf m tn (recH z32 bs) (.slice a12 s.length k12) rv false ∧ Far jb w12 W) (fun W h f => ⟨h.out, f.out⟩)
  obtain ⟨J14, F14⟩ := J13.set37 (.slice none 0 0) (A := ⟨#[], []⟩) (K := fun _ W => JB W jb db hf m tn (recH z32 bs) (.slice a12 s.length k12) (.slice none 0 0) false ∧ Far jb _ W) (fun W h f => ⟨h.out, f.out⟩)
  have F := Keep.far' (F13.trans F14)
  unfold LayRes
  rw [if_pos ⟨by rw [← SZ.out]; exact FIT.out, MX.out⟩]
  have e : tn = turn + 1 := by have := TN.out; have := HTN.out; have := MX.out; omega
  have K2 := ((Keep.far' FJ.out).trans (Keep.of B12.out)).trans F
  have D14 := D5.out.keep K2 (fun i _ e => by cases e; exact J5.out.noBy) (fun e => hnj.out (.inl e.symm)) (fun g hg e => hnj.out (.inr (e ▸ hg))) (fun g hg => nomatch hg)
  have bs' := BS.out
  rw [e] at bs' J14
  rw [bs', HF.out] at D14 J14
  refine ⟨rfl, ⟨⟨⟨_, J14, (ByA.own O12.out HB8.out).keep F (fun i _ e => by cases e; exact J12.out.noBy)⟩, (recH_ok _ _).2, ⟨[], ⟨by simp, .inl ⟨rfl, rfl⟩⟩, JRs.nil _⟩, LO.out⟩, D14, ?_⟩⟩
  exact (KJ.out.trans (Keep.of B12.out)).trans (F.mono (fun i h => .inr (.inr h)))
end Go.Proofs.YtnophelfpoldfaaGreatDoor
