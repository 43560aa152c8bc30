/- The journal's lay: a record's sectors are written and made sure. -/
import Derived.Test.YtllckpcggmfmkaaDoorDsr
namespace Go.Proofs.YtllckpcggmfmkaaDoor
open Go.RowKit

def chunk (b : List Nat) (j : Nat) : List Nat := (b.drop (64 * j)).take 64
def layB (C : List (List Nat)) (p : Nat) (b : List Nat) : Nat → List (List Nat)
  | 0 => C
  | j + 1 => (layB C p b j).set (p + j) (chunk b j)
theorem layB_len (C : List (List Nat)) (p : Nat) (b : List Nat) : ∀ j, (layB C p b j).length = C.length
  | 0 => rfl
  | j + 1 => List.length_set.trans (layB_len C p b j)
/-- a part of a slice of bytes -/
theorem sl_part {w : World} {g off n c : Nat} {bs : List Nat} (h : Sl .u8 w (some ⟨g, off, none⟩) n c bs) {i m : Nat} (hi : i + m ≤ n) (hm : 0 < m) : Sl .u8 w (some ⟨g, off + i, none⟩) m (c - i) ((bs.drop i).take m) := by
  have hl := h.len
  obtain ⟨h1, h2, h3, h4, b, o, ha, hc⟩ := h
  have := ha (by omega)
  simp only [Option.some.injEq, Addr.mk.injEq] at this
  obtain ⟨rfl, rfl, _⟩ := this
  refine ⟨by rw [nums_length, List.length_take, List.length_drop, hl]; omega, by omega, by omega, (fun e => nomatch e), g, off + i, fun _ => rfl, fun j u hu => ?_⟩
  have hj := (List.getElem?_eq_some_iff.1 hu).1
  rw [nums_length, List.length_take, List.length_drop, hl] at hj
  rw [Nat.add_assoc]
  refine hc (i + j) u ?_
  rw [← hu]
  simp only [nums, List.getElem?_map, List.getElem?_take, List.getElem?_drop]
  rw [if_pos (by omega)]
structure LayI (w : World) (db B : Nat) (sv : Value) (C : List (List Nat)) (p : Nat) (bs : List Nat) (j : Nat) (wr : World) : Prop where
  ex : ∃ Q qv, DiskAt wr db B sv qv C Q ∧ Q.length = j ∧ layQ C Q = layB C p bs j ∧ ∀ g, qv.ownBlock = some g → w.heap.size ≤ g
  keep : Keep (fun i => i = db) w wr
structure Laid (w : World) (db B : Nat) (sv : Value) (C : List (List Nat)) (p : Nat) (bs : List Nat) (K : Nat) (e : Ending) (w' : World) : Prop where
  ret : e = .returned (.int .i64 0)
  dsk : DiskAt w' db B sv (.slice none 0 0) (layB C p bs K) []
  keep : Keep (fun i => i = db ∨ sv.ownBlock = some i) w w'
set_option maxRecDepth 100000 in
set_option maxHeartbeats 8000000 in
theorem jlay_walk {w : World} {db B : Nat} {sv : Value} {C : List (List Nat)} (h : DiskAt w db B sv (.slice none 0 0) C []) (half : Nat) (hh : half ≤ 1) (pl : Nat) (g c K : Nat) (bs : List Nat) (hb : ByA w (.slice (some ⟨g, 0, none⟩) (64 * K) c) bs) (hK : 0 < K) (hf : pl + K ≤ C.length / 2) :
    Calls Tryd.prog 29 #[.pointer (some ⟨db, 0, none⟩), .int .i64 (half : Int), .int .i64 (pl : Int), .slice (some ⟨g, 0, none⟩) (64 * K) c] w (Laid w db B sv C (half * (C.length / 2) + pl) bs K) := by
  have H := hid h
  have BY := hid hb
  have few := h.few
  obtain ⟨sz, hsz⟩ : ∃ sz, sz = C.length / 2 := ⟨_, rfl⟩
  obtain ⟨hs, hhs⟩ : ∃ hs, hs = half * sz := ⟨_, rfl⟩
  obtain ⟨p, hp⟩ : ∃ p, p = hs + pl := ⟨_, rfl⟩
  have hs2 : hs ≤ sz := by rw [hhs]; have := Nat.mul_le_mul_right sz hh; omega
  have r1 : IntKind.i64.wrap ((half : Int) * (sz : Int)) = (hs : Int) := by rw [← Int.natCast_mul, ← hhs, IntKind.wrap_i64]; omega
  have r2 : IntKind.i64.wrap ((hs : Int) + (pl : Int)) = (p : Int) := by rw [IntKind.wrap_i64]; omega
  have NB := hid (show p + K ≤ C.length ∧ p + K ≤ 4096 ∧ K ≤ 4096 from by omega)
  have SZ := hid hsz
  rw [← hsz, ← hhs, ← hp]
  obtain ⟨n, hn⟩ : ∃ n, n = 64 * K := ⟨_, rfl⟩
  rw [← hn] at BY ⊢
  have HN := hid hn
  have cn : n ≤ c := by
    obtain ⟨a', n', c', e, hsl, _⟩ := BY.out
    simp only [Value.slice.injEq] at e
    obtain ⟨_, rfl, rfl⟩ := e
    exact hsl.2.1
  clear h hb hsz hhs hp hn hs2 few hf
  go_enter Tryd.func29, Tryd.ntmps29
  go_upto_region 2 with (fail)
  go_loopw [9] (fun x9 wr => ∃ j i : Nat, i = 64 * j ∧ j ≤ K ∧ x9 = .int .i64 (i : Int) ∧ LayI w db B sv C p bs j wr) (fun x9 _ => 64 * K - (intOf x9).toNat)
  case atStart => exact ⟨0, 0, rfl, by omega, rfl, ⟨[], _, H.out, rfl, rfl, fun g h => nomatch h⟩, Keep.refl _ _⟩
  case round =>
    obtain ⟨j, i, hij, hj, rfl, hI⟩ := hrel
    obtain ⟨Q, qv, hD, hl, hq, hfr⟩ := hI.ex
    have D := hid hD
    have HQ := hid (And.intro hl hq)
    have FR := hid hfr
    have KK := hid hI.keep
    have IJ := hid hij
    clear hI hD hl hq hfr
    by_cases hlt : j < K
    case neg =>
      have t1 : decide (i < n) = false := decide_eq_false (by have := HN.out; omega)
      obtain rfl : j = K := by omega
      clear hlt hj hij
      go_wp2_with (fail)
      refine (dsync_walk D.out (by rw [HQ.out.1]; have := NB.out; omega)).mono ?_
      rintro e w5 ⟨rfl, s5⟩
      have S5 := hid s5
      clear s5
      go_wp2_with (fail)
      go_ret
      refine ⟨rfl, by have := S5.out.dsk; rw [HQ.out.2] at this; exact this, (KK.out.mono (fun i hi => .inl hi)).trans S5.out.keep⟩
    have t1 : decide (i < n) = true := decide_eq_true (by have := HN.out; omega)
    obtain ⟨i2, hi2⟩ : ∃ i2, i2 = i + 64 := ⟨_, rfl⟩
    obtain ⟨pj, hpj⟩ : ∃ pj, pj = p + j := ⟨_, rfl⟩
    have nb := NB.out
    have hn := HN.out
    have r3 : ((i : Int)).tdiv 64 = (j : Int) := by rw [Int.tdiv_eq_ediv_of_nonneg (by omega)]; omega
    have r3' : IntKind.i64.wrap (j : Int) = (j : Int) := by rw [IntKind.wrap_i64]; omega
    have r4 : IntKind.i64.wrap ((p : Int) + (j : Int)) = (pj : Int) := by rw [IntKind.wrap_i64]; omega
    have r5 : IntKind.i64.wrap ((i : Int) + 64) = (i2 : Int) := by rw [IntKind.wrap_i64]; omega
    have s1 : (0 : Int) ≤ (i : Int) := by omega
    have s2 : (i : Int) ≤ (i2 : Int) := by omega
    have s3 : (i2 : Int) ≤ (c : Int) := by omega
    have s4 : i ≤ i2 := by omega
    have s5 : i2 ≤ c := by omega
    have s6 : i2 - i = 64 := by omega
    have s7 : ¬ (c = i) := by omega
    have s8 : i ≤ c := by omega
    have PJ := hid hpj
    have I2 := hid hi2
    have LT := hid hlt
    have BYr := hid (BY.out.keep KK.out (fun k _ e => by rw [e]; exact H.out.noBy))
    have SLr := hid (show Sl .u8 wr (some ⟨g, 0 + i, none⟩) 64 (c - i) (chunk bs j) from by
      obtain ⟨a', n', c', e, hsl, _⟩ := BYr.out
      simp only [Value.slice.injEq] at e
      obtain ⟨rfl, rfl, rfl⟩ := e
      have := sl_part hsl (i := i) (m := 64) (by omega) (by omega)
      rw [hij] at this ⊢
      exact this)
    have hb8 := hid (show ∀ d ∈ chunk bs j, d < 256 from fun d hd => by
      obtain ⟨_, _, _, _, _, hb, _⟩ := BYr.out
      exact hb d (List.mem_of_mem_drop (List.mem_of_mem_take hd)))
    clear nb hn hi2 hpj hij hlt hj
    rw [Nat.zero_add] at SLr
    go_upto_region 4 with (fail)
    refine wp_region_held_drew (S := fun _ => True) (by kernel_rfl) (trivial) (fun hHeld => ?_)
    try simp only [List.size_toArray, List.length_cons, List.length_nil, Nat.reduceAdd, Array.replicate_succ, Array.replicate_zero, List.push_toArray, List.nil_append, List.cons_append]
    refine wpAnyH_take (i := 0) (oi := { dst := some 17, op := Op.move (Operand.tmp 0), type := 25, pos := "journal.go:54", after := #[], guard := none }) (v := ?v1001) rfl (by kernel_rfl) (by kernel_rfl) (by kernel_rfl) (fun _ _ _ h => h) (Or.inl ⟨by rfl, ?hy1001⟩) hHeld ?_
    case hy1001 => (intro w hSw; (try dsimp only at hSw); go_simp; (try with_reducible rfl))
    (try simp only [Act.put, List.setIfInBounds_toArray, List.set_cons_zero, List.set_cons_succ])
    refine wpAnyH_take (i := 1) (oi := { dst := some 18, op := Op.move (Operand.tmp 1), type := 3, pos := "journal.go:54", after := #[], guard := none }) (v := ?v1002) rfl (by kernel_rfl) (by kernel_rfl) (by kernel_rfl) (fun _ _ _ h => h) (Or.inl ⟨by rfl, ?hy1002⟩) hHeld ?_
    case hy1002 => (intro w hSw; (try dsimp only at hSw); go_simp; (try with_reducible rfl))
    (try simp only [Act.put, List.setIfInBounds_toArray, List.set_cons_zero, List.set_cons_succ])
    refine wpAnyH_take (i := 2) (oi := { dst := some 19, op := Op.move (Operand.tmp 0), type := 25, pos := "journal.go:54", after := #[], guard := none }) (v := ?v1003) rfl (by kernel_rfl) (by kernel_rfl) (by kernel_rfl) (fun _ _ _ h => h) (Or.inl ⟨by rfl, ?hy1003⟩) hHeld ?_
    case hy1003 => (intro w hSw; (try dsimp only at hSw); go_simp; (try with_reducible rfl))
    (try simp only [Act.put, List.setIfInBounds_toArray, List.set_cons_zero, List.set_cons_succ])
    refine wpAnyH_take (i := 5) (oi := { dst := some 22, op := Op.move (Operand.tmp 2), type := 3, pos := "journal.go:54", after := #[], guard := none }) (v := ?v1004) rfl (by kernel_rfl) (by kernel_rfl) (by kernel_rfl) (fun _ _ _ h => h) (Or.inl ⟨by rfl, ?hy1004⟩) hHeld ?_
    case hy1004 => (intro w hSw; (try dsimp only at hSw); go_simp; (try with_reducible rfl))
    (try simp only [Act.put, List.setIfInBounds_toArray, List.set_cons_zero, List.set_cons_succ])
    refine wpAnyH_take (i := 7) (oi := { dst := some 24, op := Op.move (Operand.tmp 9), type := 3, pos := "journal.go:54", after := #[], guard := none }) (v := ?v1005) rfl (by kernel_rfl) (by kernel_rfl) (by kernel_rfl) (fun _ _ _ h => h) (Or.inl ⟨by rfl, ?hy1005⟩) hHeld ?_
    case hy1005 => (intro w hSw; (try dsimp only at hSw); go_simp; (try with_reducible rfl))
    (try simp only [Act.put, List.setIfInBounds_toArray, List.set_cons_zero, List.set_cons_succ])
    refine wpAnyH_take (i := 8) (oi := { dst := some 25, op := Op.binOp BinOp.quo 3 (Operand.tmp 24) (Operand.const (Value.int IntKind.i64 64)) 3, type := 3, pos := "journal.go:54", after := #[{ on := 7, ground := Ground.data }], guard := none }) (v := ?v1006) rfl (by kernel_rfl) (by kernel_rfl) (by kernel_rfl) (fun _ _ _ h => h) (Or.inl ⟨by rfl, ?hy1006⟩) hHeld ?_
    case hy1006 => (intro w hSw; (try dsimp only at hSw); go_simp; (try with_reducible rfl))
    (try simp only [Act.put, List.setIfInBounds_toArray, List.set_cons_zero, List.set_cons_succ])
    refine wpAnyH_take (i := 10) (oi := { dst := some 27, op := Op.move (Operand.tmp 3), type := 23, pos := "journal.go:54", after := #[], guard := none }) (v := ?v1007) rfl (by kernel_rfl) (by kernel_rfl) (by kernel_rfl) (fun _ _ _ h => h) (Or.inl ⟨by rfl, ?hy1007⟩) hHeld ?_
    case hy1007 => (intro w hSw; (try dsimp only at hSw); go_simp; (try with_reducible rfl))
    (try simp only [Act.put, List.setIfInBounds_toArray, List.set_cons_zero, List.set_cons_succ])
    refine wpAnyH_take (i := 11) (oi := { dst := some 28, op := Op.move (Operand.tmp 9), type := 3, pos := "journal.go:54", after := #[], guard := none }) (v := ?v1008) rfl (by kernel_rfl) (by kernel_rfl) (by kernel_rfl) (fun _ _ _ h => h) (Or.inl ⟨by rfl, ?hy1008⟩) hHeld ?_
    case hy1008 => (intro w hSw; (try dsimp only at hSw); go_simp; (try with_reducible rfl))
    (try simp only [Act.put, List.setIfInBounds_toArray, List.set_cons_zero, List.set_cons_succ])
    refine wpAnyH_take (i := 12) (oi := { dst := some 29, op := Op.move (Operand.tmp 9), type := 3, pos := "journal.go:54", after := #[], guard := none }) (v := ?v1009) rfl (by kernel_rfl) (by kernel_rfl) (by kernel_rfl) (fun _ _ _ h => h) (Or.inl ⟨by rfl, ?hy1009⟩) hHeld ?_
    case hy1009 => (intro w hSw; (try dsimp only at hSw); go_simp; (try with_reducible rfl))
    (try simp only [Act.put, List.setIfInBounds_toArray, List.set_cons_zero, List.set_cons_succ])
    refine wpAnyH_take (i := 13) (oi := { dst := some 30, op := Op.binOp BinOp.add 3 (Operand.tmp 29) (Operand.const (Value.int IntKind.i64 64)) 3, type := 3, pos := "journal.go:54", after := #[{ on := 12, ground := Ground.data }], guard := none }) (v := ?v1010) rfl (by kernel_rfl) (by kernel_rfl) (by kernel_rfl) (fun _ _ _ h => h) (Or.inl ⟨by rfl, ?hy1010⟩) hHeld ?_
    case hy1010 => (intro w hSw; (try dsimp only at hSw); go_simp; (try with_reducible rfl))
    (try simp only [Act.put, List.setIfInBounds_toArray, List.set_cons_zero, List.set_cons_succ])
    refine wpAnyH_take (i := 14) (oi := { dst := some 31, op := Op.slice 23 (Operand.tmp 27) (some (Operand.tmp 28)) (some (Operand.tmp 30)) none, type := 23, pos := "journal.go:54", after := #[{ on := 10, ground := Ground.data }, { on := 11, ground := Ground.data }, { on := 13, ground := Ground.data }], guard := none }) (v := ?v1011) rfl (by kernel_rfl) (by kernel_rfl) (by kernel_rfl) (fun _ _ _ h => h) (Or.inl ⟨by rfl, ?hy1011⟩) hHeld ?_
    case hy1011 => (intro w hSw; (try dsimp only at hSw); go_simp; (try with_reducible rfl))
    (try simp only [Act.put, List.setIfInBounds_toArray, List.set_cons_zero, List.set_cons_succ])
    refine wpAnyH_ready (rs := [3]) (by kernel_rfl) (by simp) ?_
    refine AllReadyH.cons (o := { dst := some 20, op := Op.call { callee := Callee.value (Operand.func 28), args := #[Operand.tmp 19], argTypes := #[25] }, type := 3, pos := "journal.go:54", after := #[{ on := 2, ground := Ground.data }], guard := none }) rfl (fun K hK => ?_) ?_
    go_simp; refine (dsize_walk (D.out.below (Below.refl _ _).drew)).mono ?_; rintro e wq ⟨rfl, rfl⟩; rw [← SZ.out]
    refine hK.out _ _ (trivial) (fun hHeld => ?_)
    clear hK K
    (try simp only [List.setIfInBounds_toArray, List.set_cons_zero, List.set_cons_succ])
    refine wpAnyH_take (i := 4) (oi := { dst := some 21, op := Op.binOp BinOp.mul 3 (Operand.tmp 18) (Operand.tmp 20) 3, type := 3, pos := "journal.go:54", after := #[{ on := 1, ground := Ground.data }, { on := 3, ground := Ground.data }], guard := none }) (v := ?v1012) rfl (by kernel_rfl) (by kernel_rfl) (by kernel_rfl) (fun _ _ _ h => h) (Or.inl ⟨by rfl, ?hy1012⟩) hHeld ?_
    case hy1012 => (intro w hSw; (try dsimp only at hSw); go_simp; (try with_reducible rfl))
    (try simp only [Act.put, List.setIfInBounds_toArray, List.set_cons_zero, List.set_cons_succ])
    refine wpAnyH_take (i := 6) (oi := { dst := some 23, op := Op.binOp BinOp.add 3 (Operand.tmp 21) (Operand.tmp 22) 3, type := 3, pos := "journal.go:54", after := #[{ on := 4, ground := Ground.data }, { on := 5, ground := Ground.data }], guard := none }) (v := ?v1013) rfl (by kernel_rfl) (by kernel_rfl) (by kernel_rfl) (fun _ _ _ h => h) (Or.inl ⟨by rfl, ?hy1013⟩) hHeld ?_
    case hy1013 => (intro w hSw; (try dsimp only at hSw); go_simp; (try with_reducible rfl))
    (try simp only [Act.put, List.setIfInBounds_toArray, List.set_cons_zero, List.set_cons_succ])
    refine wpAnyH_take (i := 9) (oi := { dst := some 26, op := Op.binOp BinOp.add 3 (Operand.tmp 23) (Operand.tmp 25) 3, type := 3, pos := "journal.go:54", after := #[{ on := 6, ground := Ground.data }, { on := 8, ground := Ground.data }], guard := none }) (v := ?v1014) rfl (by kernel_rfl) (by kernel_rfl) (by kernel_rfl) (fun _ _ _ h => h) (Or.inl ⟨by rfl, ?hy1014⟩) hHeld ?_
    case hy1014 => (intro w hSw; (try dsimp only at hSw); go_simp; (try with_reducible rfl))
    (try simp only [Act.put, List.setIfInBounds_toArray, List.set_cons_zero, List.set_cons_succ])
    refine wpAnyH_ready (rs := [15]) (by kernel_rfl) (by simp) ?_
    refine AllReadyH.cons (o := { dst := some 32, op := Op.call { callee := Callee.value (Operand.func 20), args := #[Operand.tmp 17, Operand.tmp 26, Operand.tmp 31], argTypes := #[25, 3, 23] }, type := 38, pos := "journal.go:54", after := #[{ on := 0, ground := Ground.data }, { on := 9, ground := Ground.data }, { on := 14, ground := Ground.data }, { on := 3, ground := Ground.chain }], guard := none }) rfl (fun K hK => ?_) ?_
    go_simp; refine (dwrite_walk (D.out.below (Below.refl _ _).drew) pj (by have := PJ.out; have := NB.out; have := LT.out; omega) _ (c - i) (chunk bs j) (SLr.out.below (Below.refl _ _).drew) hb8.out (by rw [HQ.out.1]; have := NB.out; have := LT.out; omega)).mono ?_; rintro e w6 ⟨rfl, d6, k6⟩; have D6 := hid d6; have K6 := hid k6; clear d6 k6
    refine hK.out _ _ (trivial) (fun hHeld => ?_)
    clear hK K
    (try simp only [List.setIfInBounds_toArray, List.set_cons_zero, List.set_cons_succ])
    refine wpAnyH_take (i := 16) (oi := { dst := some 10, op := Op.assign (Operand.tmp 32), type := 38, pos := "journal.go:54", after := #[{ on := 15, ground := Ground.data }, { on := 15, ground := Ground.chain }, { on := 0, ground := Ground.phase }, { on := 1, ground := Ground.phase }, { on := 2, ground := Ground.phase }, { on := 3, ground := Ground.phase }, { on := 4, ground := Ground.phase }, { on := 5, ground := Ground.phase }, { on := 6, ground := Ground.phase }, { on := 7, ground := Ground.phase }, { on := 8, ground := Ground.phase }, { on := 9, ground := Ground.phase }, { on := 10, ground := Ground.phase }, { on := 11, ground := Ground.phase }, { on := 12, ground := Ground.phase }, { on := 13, ground := Ground.phase }, { on := 14, ground := Ground.phase }, { on := 15, ground := Ground.phase }], guard := none }) (v := ?v1015) rfl (by kernel_rfl) (by kernel_rfl) (by kernel_rfl) (fun _ _ _ h => h) (Or.inl ⟨by rfl, ?hy1015⟩) hHeld ?_
    case hy1015 => (intro w hSw; (try dsimp only at hSw); go_simp; (try with_reducible rfl))
    (try simp only [Act.put, List.setIfInBounds_toArray, List.set_cons_zero, List.set_cons_succ])
    refine wpAnyH_done (by kernel_rfl) ?_ _
    rotate_left
    exact AllReadyH.nil
    exact AllReadyH.nil
    all_goals
      obtain ⟨qv', v', d6, n6⟩ := D6.out
      have I6 := hid (show LayI w db B sv C p bs (j + 1) w6 from by
        refine ⟨⟨_, qv', d6, by rw [List.length_append, HQ.out.1]; rfl, ?_, fun g hg => ?_⟩, ?_⟩
        · rw [layQ_snoc, HQ.out.2]
          show (layB C p bs j).set pj (chunk bs j) = (layB C p bs j).set (p + j) (chunk bs j)
          rw [PJ.out]
        · rcases n6 with h | h
          · exact FR.out g (h ▸ hg)
          · exact Nat.le_trans KK.out.size (h g hg)
        · refine KK.out.then ((Keep.of (S := fun i => i = db ∨ qv.ownBlock = some i) (Below.refl _ wr).drew).trans K6.out) (fun i hi e => ?_)
          rcases e with e | e
          · exact e
          · have := FR.out i e; omega)
      clear D6 K6 hHeld d6 n6 r1 r2 r3 r3' r4 s1 s2 s3 s4 s5 s6 s7 s8
      go_wp2_with (fail)
      go_roundw
      case rel => exact ⟨j + 1, i2, by have := I2.out; have := IJ.out; omega, by have := LT.out; omega, by go_num, I6.out⟩
      case measure => simp [intOf]; have := I2.out; have := IJ.out; have := LT.out; omega
end Go.Proofs.YtllckpcggmfmkaaDoor
