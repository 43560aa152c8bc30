/- The walk of Decode. -/
import Derived.Test.YtnfklnbdebcpiaaDoorSecf
namespace Go.Proofs.YtnfklnbdebcpiaaDoor
open Go.RowKit

def val8 (l : List Nat) : Nat := l.foldl (fun x d => x * 256 + d) 0
theorem val8_snoc (l : List Nat) (d : Nat) : val8 (l ++ [d]) = val8 l * 256 + d := by simp [val8]
theorem foldl_lt : ∀ (l : List Nat) (x : Nat), (∀ d ∈ l, d < 256) → l.foldl (fun x d => x * 256 + d) x < (x + 1) * 256 ^ l.length
  | [], x, _ => by simp
  | d :: l, x, h => by
    rw [List.foldl_cons, List.length_cons, Nat.pow_succ]
    have h1 := foldl_lt l (x * 256 + d) (fun y hy => h y (List.mem_cons_of_mem _ hy))
    have hd := h d (by simp)
    have h2 : (x * 256 + d + 1) * 256 ^ l.length ≤ ((x + 1) * 256) * 256 ^ l.length := Nat.mul_le_mul_right _ (by omega)
    rw [Nat.mul_comm (256 ^ l.length), ← Nat.mul_assoc]
    omega
theorem val8_lt {l : List Nat} (h : ∀ d ∈ l, d < 256) : val8 l < 256 ^ l.length := by
  have := foldl_lt l 0 h
  simpa [val8] using this
theorem val8_take {l : List Nat} (h : ∀ d ∈ l, d < 256) {i : Nat} (hi : i ≤ 7) : val8 (l.take i) < 72057594037927936 := by
  have h1 := val8_lt (l := l.take i) (fun d hd => h d (List.mem_of_mem_take hd))
  have h2 : 256 ^ (l.take i).length ≤ 256 ^ 7 := Nat.pow_le_pow_right (by omega) (by rw [List.length_take]; omega)
  omega
theorem val8_take8 {l : List Nat} (h : ∀ d ∈ l, d < 256) {i : Nat} (hi : i ≤ 8) : val8 (l.take i) < 18446744073709551616 := by
  have h1 := val8_lt (l := l.take i) (fun d hd => h d (List.mem_of_mem_take hd))
  have h2 : 256 ^ (l.take i).length ≤ 256 ^ 8 := Nat.pow_le_pow_right (by omega) (by rw [List.length_take]; omega)
  omega
def DecRes (w : World) (bs : List Nat) (e : Ending) (w' : World) : Prop := Below w.heap.size w w' ∧
  (bs.length < 8 → e = .returned (.tuple #[.pointer none, .int .i64 20])) ∧
  (8 ≤ bs.length → (281474976710656 < val8 (bs.take 8) → e = .returned (.tuple #[.pointer none, .int .i64 1])) ∧
    (val8 (bs.take 8) ≤ 281474976710656 → ((decL (val8 (bs.take 8)) 49 0 noneK (bs.drop 8)).1 ≠ 0 → e = .returned (.tuple #[.pointer none, .int .i64 (((decL (val8 (bs.take 8)) 49 0 noneK (bs.drop 8)).1 : Nat) : Int)])) ∧
      ((decL (val8 (bs.take 8)) 49 0 noneK (bs.drop 8)).1 = 0 → ∃ cb, w.heap.size ≤ cb ∧ e = .returned (.tuple #[.pointer (some ⟨cb, 0, none⟩), .int .i64 0]) ∧ ChAt w' cb (decL (val8 (bs.take 8)) 49 0 noneK (bs.drop 8)).2 (val8 (bs.take 8)))))
theorem u64_or_join (c d : Nat) (hc : c < 72057594037927936) (hd : d < 256) : bits .or .u64 ((c : Int) * 256) (d : Int) = ((c * 256 + d : Nat) : Int) := by
  have h1 : ∀ n : Nat, n < 18446744073709551616 → (BitVec.ofInt 64 (n : Int)).toNat = n := fun n hn => by rw [BitVec.toNat_ofInt]; omega
  have e1 : (c : Int) * 256 = ((c * 256 : Nat) : Int) := by omega
  rw [e1]
  show IntKind.u64.wrap ((BitVec.ofInt 64 ((c * 256 : Nat) : Int) ||| BitVec.ofInt 64 (d : Int)).toNat : Int) = _
  rw [BitVec.toNat_or, h1 _ (by omega), h1 _ (by omega), show c * 256 = 2 ^ 8 * c by omega, ← Nat.two_pow_add_eq_or_of_lt (by omega : d < 2 ^ 8), IntKind.wrap_u64]
  omega
theorem run_arr32 (w : World) (a : Option Addr) (cap : Nat) : (Instr.arrayAt 23 (.slice a 32 cap)).run Tryd.prog w = .ok (.pointer a) w := by
  unfold Instr.arrayAt
  rw [Sem.run_bind, run_underlying Tryd.underlying23 w]
  rfl
set_option maxRecDepth 100000 in
set_option maxHeartbeats 8000000 in
theorem decode_walk (a : Option Addr) (m cap : Nat) (bs : List Nat) (hx : ∀ d ∈ bs, d < 256) (hm : m ≤ 1000000) (w : World) (h : Sl .u8 w a m cap bs) :
    Calls Tryd.prog 17 #[.slice a m cap] w (DecRes w bs) := by
  have HL := hid h.len
  have hcap := h.2.1
  have HB := hid hx
  have SS := hid h
  clear h hx
  go_enter Tryd.func17, Tryd.ntmps17
  by_cases h8 : m < 8
  · have t1 : decide ((m : Int) < 8) = true := by rw [decide_eq_true_eq]; omega
    have H8 := hid h8
    clear h8
    go_wp2
    go_ret2
    exact ⟨Below.refl _ _, fun _ => rfl, fun h => by have := HL.out; have := H8.out; omega⟩
  · have t1 : decide ((m : Int) < 8) = false := by rw [decide_eq_false_iff_not]; omega
    obtain ⟨b, off, ha, hc⟩ := SS.out.opened
    obtain rfl := ha (by omega)
    have hbw : b < w.heap.size := World.block_lt_of_cell? w _ (hc 0 (by omega))
    clear hc ha
    have tc : decide ((8 : Int) ≤ (cap : Int)) = true := by rw [decide_eq_true_eq]; omega
    have zr := zv47
    have zn := zn47
    have gC := heap_alloc_new w (.cells zc47 47)
    have b0 := (Below.refl w.heap.size w).alloc (Nat.le_refl _) (.cells zc47 47)
    go_upto_region 4 with (fail)
    generalize hW : World.alloc w _ = w1 at *
    obtain ⟨cb, hcb⟩ : ∃ cb, cb = w.heap.size := ⟨_, rfl⟩
    rw [← hcb] at gC b0 ⊢
    have S1 := hid (SS.out.below (hcb ▸ b0))
    obtain ⟨b', off', ha', hc1⟩ := S1.out.opened
    have ha'' := ha' (by omega)
    simp only [Option.some.injEq, Addr.mk.injEq, and_true] at ha''
    obtain ⟨rfl, rfl⟩ := ha''
    have hc1 := hid hc1
    rw [← hcb] at hbw
    have B0 := hid b0
    have GC := hid gC
    have hcbw : cb < w1.heap.size := (Array.getElem?_eq_some_iff.1 gC).1
    have HCB := hid hcb
    clear gC b0 ha' hW hcb
    go_wp2
    go_loopw [18] (fun x18 wr => ∃ i : Nat, i ≤ 8 ∧ x18 = .int .i64 i ∧ Hid (∃ cs : Array Value, wr.heap[cb]? = some (.cells cs 47 (0, 0)) ∧ cs = zc47.setIfInBounds 1617 (.int .u64 (val8 (bs.take i) : Int))) ∧ Hid (Far cb w1 wr)) (fun x18 _ => 8 - (intOf x18).toNat)
    case atStart => exact ⟨0, by omega, rfl, hid ⟨_, GC.out, by kernel_rfl⟩, hid (Far.refl _ _)⟩
    case round =>
      obtain ⟨i, hi, rfl, hcs, HF⟩ := hrel
      obtain ⟨cs, hcs1, hcs2⟩ := hcs.out
      by_cases hlt : i < 8
      · have ci := hc1.out i (by omega)
        have di := getDlt HB.out (by omega) i
        obtain ⟨c, hcv⟩ : ∃ c, c = val8 (bs.take i) := ⟨_, rfl⟩
        have hc7 : c < 72057594037927936 := by rw [hcv]; exact val8_take HB.out (by omega)
        rw [← hcv] at hcs2
        have cc : wr.cell? ⟨cb, 1617, none⟩ = some (.int .u64 (c : Int)) := by
          rw [cell_of_row _ cb _ _ _ (0, 0) hcs1, hcs2, Array.getElem?_setIfInBounds_self_of_lt (by rw [zch.sz]; decide)]
        have cf := frozen_of_row _ cb 1617 _ _ hcs1
        have cb' := far_cell' ci HF.out (by show b ≠ cb; omega)
        have eJ := u64_or_join c (bs.getD i 0) hc7 di
        have HV := hid (show val8 (bs.take (i + 1)) = c * 256 + bs.getD i 0 by
          have hil : i < bs.length := by have := HL.out; omega
          rw [List.take_add_one, List.getElem?_eq_getElem hil, List.getD_eq_getElem?_getD, List.getElem?_eq_getElem hil]
          show val8 (bs.take i ++ [bs[i]]) = _
          rw [val8_snoc, hcv]; rfl)
        obtain ⟨d, hd⟩ : ∃ d, d = bs.getD i 0 := ⟨_, rfl⟩
        rw [← hd] at cb' eJ HV di
        obtain ⟨x, hx⟩ : ∃ x : Nat, x = c * 256 + d := ⟨_, rfl⟩
        rw [← hx] at eJ HV
        have hw : IntKind.u64.wrap ((c : Int) * 256) = (c : Int) * 256 := by rw [IntKind.wrap_u64]; omega
        have h5 := heap_setCell_same wr cb 1617 _ 47 (.int .u64 (x : Int)) hcs1
        have F5 := HF.out.trans (Far.set (H := cb) (j := 1617) (w := wr) (.int .u64 (x : Int)))
        have H5 := hid h5
        have F5 := hid F5
        have e5 := hid (show cs.setIfInBounds 1617 (.int .u64 (x : Int)) = zc47.setIfInBounds 1617 (.int .u64 (val8 (bs.take (i + 1)) : Int)) by
          rw [hcs2, HV.out, Array.setIfInBounds_setIfInBounds])
        clear hcv hcs1 hcs2 hcs ci h5 hd hx
        go_wp2
        go_roundw
        case rel => exact ⟨i + 1, by omega, by go_num, hid ⟨_, H5.out, e5.out⟩, F5⟩
        case measure => simp [intOf]; omega
      · have hi8 : i = 8 := by omega
        subst hi8
        obtain ⟨n, hn⟩ : ∃ n, n = val8 (bs.take 8) := ⟨_, rfl⟩
        have hn64 : n < 18446744073709551616 := by rw [hn]; exact val8_take8 HB.out (by omega)
        rw [← hn] at hcs2
        have HN := hid hn
        have cc : wr.cell? ⟨cb, 1617, none⟩ = some (.int .u64 (n : Int)) := by
          rw [cell_of_row _ cb _ _ _ (0, 0) hcs1, hcs2, Array.getElem?_setIfInBounds_self_of_lt (by rw [zch.sz]; decide)]
        have HBr := hid (show Below w.heap.size w wr from HCB.out ▸ B0.out.trans (HF.out.below (Nat.le_refl _) (Nat.le_of_lt hcbw)))
        have Hcs1 := hid hcs1
        have Hcs2 := hid hcs2
        clear hn hcs hcs1 hcs2 hc1 hlt hi
        by_cases hbig : 281474976710656 < n
        · have t2 : decide ((n : Int) > 281474976710656) = true := by rw [decide_eq_true_eq]; omega
          have HBG := hid hbig
          clear hbig
          go_wp2
          go_ret2
          exact ⟨HBr.out, fun h => by have := HL.out; omega, fun _ => ⟨fun _ => rfl, fun h => by rw [← HN.out] at h; have := HBG.out; omega⟩⟩
        · have t2 : decide ((n : Int) > 281474976710656) = false := by rw [decide_eq_false_iff_not]; omega
          have hn48 : n ≤ 281474976710656 := by omega
          have HC := hid (show ChAt wr cb noneK n from ⟨⟨_, Hcs1.out, Hcs2.out ▸ zch.count hn48⟩⟩)
          clear hbig Hcs1 Hcs2
          have HF := hid HF.out
          go_wp2_with (refine wpList_cutG (m := 8) rfl _ _ rfl SS.out rfl rfl (by omega) ?_)
          intro a2 hS2 _
          have HS2 := hid hS2
          have unH := Tryd.underlying23
          clear hS2 cc
          go_wp2
          go_loopw [0, 41] (fun x0 x41 wr => ∃ (i : Nat) (Ki : KM) (ad : Option Addr) (nn cc : Nat) (ys : List Nat), i ≤ 49 ∧ x0 = .slice ad nn cc ∧ x41 = .int .i64 i ∧ Hid (Sl .u8 w ad nn cc ys) ∧ Hid (∀ d ∈ ys, d < 256) ∧ Hid (decL n (49 - i) i Ki ys = decL n 49 0 noneK (bs.drop 8)) ∧ Hid (ChAt wr cb Ki n) ∧ Hid (Far cb w1 wr) ∧ nn ≤ 1000000) (fun _ x41 _ => 49 - (intOf x41).toNat)
          case atStart => exact ⟨0, noneK, a2, _, _, bs.drop 8, by omega, rfl, rfl, HS2, hid (fun d hd => HB.out d (List.mem_of_mem_drop hd)), hid rfl, HC, HF, by omega⟩
          case round =>
            clear HC HF HS2 HBr
            obtain ⟨i, Ki, ad, nn, cc, ys, hi, rfl, rfl, HS2, HY, HD, HC, HF, hnn⟩ := hrel
            have cct := HC.out.count
            by_cases hlt : i < 49
            · have e49 : 49 - i = 48 - i + 1 := by omega
              have e48 : 49 - (i + 1) = 48 - i := by omega
              have hd2 := HD.out
              rw [e49, decL] at hd2
              rw [← e48] at hd2
              have lwk := fun w => last_walk i n (by omega) hn48 w
              unfold LastRes lastV at lwk
              cases hl : lastN i n with
              | none =>
                simp only [hl] at hd2 lwk
                have LW := hid lwk
                have HD2 := hid hd2
                clear lwk hd2 e49 e48 hl HD
                go_wp2_with fail
                refine (LW.out _).mono ?_
                rintro e w3 ⟨rfl, rfl⟩
                go_wp2
                go_roundw
                case rel => exact ⟨i + 1, Ki, ad, nn, cc, ys, by omega, rfl, by go_num, HS2, HY, HD2, HC, HF, hnn⟩
                case measure => simp [intOf]; omega
              | some p =>
                have hp48 : p < 281474976710656 := by have := (last_some (by omega) hn48 hl).1; omega
                simp only [hl] at hd2 lwk
                have LW := hid lwk
                have HLN := HS2.out.len
                rw [HLN] at hd2
                by_cases h32 : nn < 32
                · rw [if_pos h32] at hd2
                  have HD2 := hid hd2
                  have t3 : decide ((nn : Int) < 32) = true := by rw [decide_eq_true_eq]; omega
                  clear lwk hd2 e49 e48 hl HD h32 HLN
                  go_wp2_with fail
                  refine (LW.out _).mono ?_
                  rintro e w3 ⟨rfl, hw3⟩
                  have hw4 := hw3.symm
                  clear hw3
                  subst hw4
                  go_wp2
                  go_ret2
                  have hbw := hid (show Below w.heap.size w wr from HCB.out ▸ B0.out.trans (HF.out.below (Nat.le_refl _) (Nat.le_of_lt hcbw)))
                  exact ⟨hbw.out, fun h => by have := HL.out; omega, fun _ => ⟨fun h => by rw [← HN.out] at h; omega, fun _ => ⟨fun _ => by rw [← HN.out, ← HD2.out]; rfl, fun h => by rw [← HN.out, ← HD2.out] at h; cases h⟩⟩⟩
                · rw [if_neg h32] at hd2
                  have HD2 := hid hd2
                  have t3 : decide ((nn : Int) < 32) = false := by rw [decide_eq_false_iff_not]; omega
                  have hncc := HS2.out.2.1
                  have t4 : (32 : Int) ≤ (cc : Int) := by omega
                  obtain ⟨b2, o2, ha2, hc2⟩ := (HS2.out.take (m := 32) (by omega)).opened
                  have had := ha2 (by decide)
                  subst had
                  have hT := hid (show H32 (ys.take 32) from ⟨by rw [List.length_take]; omega, fun d hd => HY.out d (List.mem_of_mem_take hd)⟩)
                  have hbc := hid (show b2 ≠ cb by
                    have := World.block_lt_of_cell? w _ (hc2 0 (by decide))
                    have := HCB.out
                    have h3 : b2 < w.heap.size := by assumption
                    omega)
                  have HBr := hid (show Below w.heap.size w wr from HCB.out ▸ B0.out.trans (HF.out.below (Nat.le_refl _) (Nat.le_of_lt hcbw)))
                  have RB := hid (range_keep HBr.out (sl_range (HS2.out.take (m := 32) (by omega)) (by decide)))
                  have hiT := hid (infoHl' hT.out)
                  have i49 : (i : Int) < 49 := by omega
                  have PA := hid ((HC.out.below ((Below.refl _ _).drew)).putAt (i := i) (p := p) (by omega) hp48 hT.out)
                  clear lwk hd2 e49 e48 hl HD HLN ha2 hc2
                  go_wp2_with fail
                  refine (LW.out _).mono ?_
                  rintro e w3 ⟨rfl, hw3⟩
                  have hw4 := hw3.symm
                  clear hw3
                  subst hw4
                  clear cct
                  go_upto_region 19 with (fail)
                  clear t3
                  refine wp_region_held_drew (S := fun w' => Far cb wr w') (by kernel_rfl) (Far.of ((Below.refl _ _).drew)) (fun hHeld => ?_)
                  try simp only [List.size_toArray, List.length_cons, List.length_nil, Nat.reduceAdd, Array.replicate_succ, Array.replicate_zero, List.push_toArray, List.nil_append, List.cons_append]
                  refine wpAnyH_take (i := 0) (oi := { dst := some 58, op := Op.move (Operand.tmp 4), type := 42, pos := "secrets.go:149", after := #[], guard := none }) (v := ?v1) rfl (by kernel_rfl) (by kernel_rfl) (by kernel_rfl) (fun _ _ _ h => h) (Or.inl ⟨by rfl, ?hy1⟩) hHeld ?_
                  case hy1 => (intro w hSw; (try dsimp only at hSw); go_simp; (try with_reducible rfl))
                  (try simp only [Act.put, List.setIfInBounds_toArray, List.set_cons_zero, List.set_cons_succ])
                  refine wpAnyH_take (i := 1) (oi := { dst := some 59, op := Op.move (Operand.tmp 7), type := 3, pos := "secrets.go:149", after := #[], guard := none }) (v := ?v2) rfl (by kernel_rfl) (by kernel_rfl) (by kernel_rfl) (fun _ _ _ h => h) (Or.inl ⟨by rfl, ?hy2⟩) hHeld ?_
                  case hy2 => (intro w hSw; (try dsimp only at hSw); go_simp; (try with_reducible rfl))
                  (try simp only [Act.put, List.setIfInBounds_toArray, List.set_cons_zero, List.set_cons_succ])
                  refine wpAnyH_take (i := 2) (oi := { dst := some 60, op := Op.move (Operand.tmp 8), type := 24, pos := "secrets.go:149", after := #[], guard := none }) (v := ?v3) rfl (by kernel_rfl) (by kernel_rfl) (by kernel_rfl) (fun _ _ _ h => h) (Or.inl ⟨by rfl, ?hy3⟩) hHeld ?_
                  case hy3 => (intro w hSw; (try dsimp only at hSw); go_simp; (try with_reducible rfl))
                  (try simp only [Act.put, List.setIfInBounds_toArray, List.set_cons_zero, List.set_cons_succ])
                  refine wpAnyH_take (i := 3) (oi := { dst := some 61, op := Op.move (Operand.tmp 0), type := 54, pos := "secrets.go:149", after := #[], guard := none }) (v := ?v4) rfl (by kernel_rfl) (by kernel_rfl) (by kernel_rfl) (fun _ _ _ h => h) (Or.inl ⟨by rfl, ?hy4⟩) hHeld ?_
                  case hy4 => (intro w hSw; (try dsimp only at hSw); go_simp; (try with_reducible rfl))
                  (try simp only [Act.put, List.setIfInBounds_toArray, List.set_cons_zero, List.set_cons_succ])
                  refine wpAnyH_take (i := 4) (oi := { dst := some 62, op := Op.slice 54 (Operand.tmp 61) none (some (Operand.const (Value.int IntKind.i64 32))) none, type := 54, pos := "secrets.go:149", after := #[{ on := 3, ground := Ground.data }], guard := none }) (v := ?v5) rfl (by kernel_rfl) (by kernel_rfl) (by kernel_rfl) (fun _ _ _ h => h) (Or.inl ⟨by rfl, ?hy5⟩) hHeld ?_
                  case hy5 => (intro w hSw; (try dsimp only at hSw); go_simp; (try with_reducible rfl))
                  (try simp only [Act.put, List.setIfInBounds_toArray, List.set_cons_zero, List.set_cons_succ])
                  refine wpAnyH_take (i := 5) (oi := { dst := some 63, op := Op.sliceToArrayPointer 23 (Operand.tmp 62), type := 0, pos := "secrets.go:149", after := #[{ on := 4, ground := Ground.data }], guard := none }) (v := .pointer (some ⟨b2, o2, none⟩)) rfl (by kernel_rfl) (by kernel_rfl) (by kernel_rfl) (fun _ _ _ h => h) (Or.inl ⟨by rfl, fun w _ => by have hc := run_arr32 w (some ⟨b2, o2, none⟩) cc; go_simp⟩) hHeld ?_
                  (try simp only [Act.put, List.setIfInBounds_toArray, List.set_cons_zero, List.set_cons_succ])
                  refine' wpAnyH_take (i := 6) (oi := { dst := some 64, op := Op.load 23 (Operand.tmp 63), type := 23, pos := "secrets.go:149", after := #[{ on := 5, ground := Ground.data }], guard := none }) (v := _) rfl (by kernel_rfl) (by kernel_rfl) (by kernel_rfl) (fun _ _ _ h => h) (yieldsIf_load_mid (by rfl) _ _ rfl b2 o2 rfl (nums .u8 (ys.take 32)) _ (fun _ h => range_far h RB.out hbc.out) unH rfl hiT.out) hHeld ?_
                  (try simp only [Act.put, List.setIfInBounds_toArray, List.set_cons_zero, List.set_cons_succ])
                  refine wpAnyH_take (i := 7) (oi := { dst := some 65, op := Op.build 44 #[(0, Operand.tmp 60), (1, Operand.tmp 64)], type := 44, pos := "secrets.go:149", after := #[{ on := 2, ground := Ground.data }, { on := 6, ground := Ground.data }], guard := none }) (v := .agg (kc (p, ys.take 32)).toArray) rfl (by kernel_rfl) (by kernel_rfl) (by kernel_rfl) (fun _ _ _ h => h) (Or.inl ⟨by rfl, fun w _ => run_build2k rfl rfl rfl (built_kc p (ys.take 32) hT.out.1)⟩) hHeld ?_
                  (try simp only [Act.put, List.setIfInBounds_toArray, List.set_cons_zero, List.set_cons_succ])
                  refine wpAnyH_take (i := 8) (oi := { dst := some 66, op := Op.nilCheck (Operand.tmp 58), type := 0, pos := "secrets.go:149", after := #[{ on := 0, ground := Ground.data }], guard := none }) (v := ?v6) rfl (by kernel_rfl) (by kernel_rfl) (by kernel_rfl) (fun _ _ _ h => h) (Or.inl ⟨by rfl, ?hy6⟩) hHeld ?_
                  case hy6 => (intro w hSw; (try dsimp only at hSw); go_simp; (try with_reducible rfl))
                  (try simp only [Act.put, List.setIfInBounds_toArray, List.set_cons_zero, List.set_cons_succ])
                  refine wpAnyH_take (i := 9) (oi := { dst := some 67, op := Op.fieldAddr 47 (Operand.tmp 66) 0, type := 0, pos := "secrets.go:149", after := #[{ on := 8, ground := Ground.data }], guard := none }) (v := ?v7) rfl (by kernel_rfl) (by kernel_rfl) (by kernel_rfl) (fun _ _ _ h => h) (Or.inl ⟨by rfl, ?hy7⟩) hHeld ?_
                  case hy7 => (intro w hSw; (try dsimp only at hSw); go_simp; (try with_reducible rfl))
                  (try simp only [Act.put, List.setIfInBounds_toArray, List.set_cons_zero, List.set_cons_succ])
                  refine wpAnyH_take (i := 10) (oi := { dst := some 68, op := Op.indexAddr 45 (Operand.tmp 67) (Operand.tmp 59), type := 0, pos := "secrets.go:149", after := #[{ on := 9, ground := Ground.data }, { on := 1, ground := Ground.data }, { on := 0, ground := Ground.phase }, { on := 1, ground := Ground.phase }, { on := 2, ground := Ground.phase }, { on := 3, ground := Ground.phase }, { on := 4, ground := Ground.phase }, { on := 5, ground := Ground.phase }, { on := 6, ground := Ground.phase }, { on := 7, ground := Ground.phase }], guard := none }) (v := ?v8) rfl (by kernel_rfl) (by kernel_rfl) (by kernel_rfl) (fun _ _ _ h => h) (Or.inl ⟨by rfl, ?hy8⟩) hHeld ?_
                  case hy8 => (intro w hSw; (try dsimp only at hSw); go_simp; (try with_reducible rfl))
                  (try simp only [Act.put, List.setIfInBounds_toArray, List.set_cons_zero, List.set_cons_succ])
                  refine wpAnyH_ready (rs := [11]) (by kernel_rfl) (by simp) ?_
                  refine AllReadyH.cons (o := { dst := none, op := Op.store 44 (Operand.tmp 68) (Operand.tmp 65), type := 0, pos := "secrets.go:149", after := #[{ on := 10, ground := Ground.data }, { on := 7, ground := Ground.data }, { on := 0, ground := Ground.phase }, { on := 1, ground := Ground.phase }, { on := 2, ground := Ground.phase }, { on := 3, ground := Ground.phase }, { on := 4, ground := Ground.phase }, { on := 5, ground := Ground.phase }, { on := 6, ground := Ground.phase }, { on := 7, ground := Ground.phase }], guard := none }) rfl (fun K hK => ?_) ?_
                  rw [if_pos (by rfl)]; refine wp_store_mid _ _ _ rfl cb (i * 33) (kc (p, ys.take 32)).toArray rfl rfl (by rw [List.size_toArray, kc_len hT.out]; exact PA.out.1) (infoKa hT.out) (all_oneCell_toArray (kc_one _)) ?_
                  refine hK.out _ _ (hHeld.trans (far_setCells _ _ _)) (fun hHeld => ?_)
                  clear hK K
                  (try simp only [List.setIfInBounds_toArray, List.set_cons_zero, List.set_cons_succ])
                  refine wpAnyH_done (by kernel_rfl) ?_ _
                  rotate_left
                  exact AllReadyH.nil
                  all_goals
                    have HC8 := hid PA.out.2
                    have F8 := hid (HF.out.trans hHeld)
                    clear hHeld
                    generalize World.setCells _ cb _ _ = w8 at *
                    go_wp2_with (refine wpList_cutG (m := 32) rfl _ _ rfl HS2.out rfl rfl (by omega) ?_)
                    intro a3 hS3 _
                    have HS3 := hid hS3
                    clear hS3
                    go_wp2
                    go_roundw
                    case rel => exact ⟨i + 1, _, a3, _, _, ys.drop 32, by omega, rfl, by go_num, HS3, hid (fun d hd => HY.out d (List.mem_of_mem_drop hd)), HD2, HC8, F8, by omega⟩
                    case measure => simp [intOf]; omega
            · have hi49 : i = 49 := by omega
              subst hi49
              have HBr := hid (show Below w.heap.size w wr from HCB.out ▸ B0.out.trans (HF.out.below (Nat.le_refl _) (Nat.le_of_lt hcbw)))
              have HLN := HS2.out.len
              have hd := HD.out
              rw [Nat.sub_self, decL, HLN] at hd
              by_cases h0 : nn = 0
              · rw [if_pos h0] at hd
                have HD2 := hid hd
                have t3 : decide ((nn : Int) > 0) = false := by rw [decide_eq_false_iff_not]; omega
                have t4 : decide (0 < nn) = false := by rw [decide_eq_false_iff_not]; omega
                clear hd HD HLN h0 cct hlt hi
                go_wp2
                go_ret2
                exact ⟨HBr.out, fun h => by have := HL.out; omega, fun _ => ⟨fun h => by rw [← HN.out] at h; omega, fun _ => ⟨fun h => by rw [← HN.out, ← HD2.out] at h; exact absurd rfl h, fun _ => ⟨cb, by rw [HCB.out]; exact Nat.le_refl _, rfl, by rw [← HN.out, ← HD2.out]; exact HC.out⟩⟩⟩⟩
              · rw [if_neg h0] at hd
                have HD2 := hid hd
                have t3 : decide ((nn : Int) > 0) = true := by rw [decide_eq_true_eq]; omega
                have t4 : decide (0 < nn) = true := by rw [decide_eq_true_eq]; omega
                clear hd HD HLN h0 cct hlt hi
                go_wp2
                go_ret2
                exact ⟨HBr.out, fun h => by have := HL.out; omega, fun _ => ⟨fun h => by rw [← HN.out] at h; omega, fun _ => ⟨fun _ => by rw [← HN.out, ← HD2.out]; rfl, fun h => by rw [← HN.out, ← HD2.out] at h; cases h⟩⟩⟩
end Go.Proofs.YtnfklnbdebcpiaaDoor
