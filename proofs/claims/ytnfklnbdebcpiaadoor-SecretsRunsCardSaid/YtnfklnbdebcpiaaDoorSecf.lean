/- The walk of Encode. -/
import Derived.Test.YtnfklnbdebcpiaaDoorSecd
namespace Go.Proofs.YtnfklnbdebcpiaaDoor
open Go.RowKit

/-- new bytes of the call's own -/
def BytesRes (w : World) (xs : List Nat) (e : Ending) (w' : World) : Prop := ∃ v, e = .returned v ∧ w'.ownsRow w.heap.size 5 1 v xs.length (nums .u8 xs) ∧ Below w.heap.size w w'
theorem own_nil' (w : World) (B : Nat) (e : TypeId) (size : Nat) : w.ownsRow B e size (.slice none 0 0) 0 [] := ⟨by simp, .inl ⟨rfl, rfl⟩⟩
theorem rd_mid {w : World} {g o : Nat} {xs : List Nat} {T : TypeId} {L : List Value} (h : w.heap[g]? = some (.cells L.toArray T (0, 0))) (hx : (L.drop o).take xs.length = nums .u8 xs) (hm : xs.length ≤ maxLen) : Sl .u8 w (some ⟨g, o, none⟩) xs.length xs.length xs := by
  refine ⟨by simp [nums_length], Nat.le_refl _, hm, by simp, g, o, fun _ => rfl, fun j v hj => ?_⟩
  have hjl : j < xs.length := by have := (List.getElem?_eq_some_iff.1 hj).1; rwa [nums_length] at this
  rw [cell_of_row _ g _ _ _ (0, 0) h]
  rw [← hx, List.getElem?_take, if_pos hjl, List.getElem?_drop] at hj
  simpa using hj
set_option maxRecDepth 100000 in
set_option maxHeartbeats 8000000 in
theorem encode_walk (cb n : Nat) (Kp : KM) (w : World) (h : ChAt w cb Kp n) :
    Calls Tryd.prog 16 #[.pointer (some ⟨cb, 0, none⟩)] w (BytesRes w (encB n Kp)) := by
  have HC := hid h
  have hn48 : n ≤ 281474976710656 := by obtain ⟨cs, _, h2⟩ := h.st; exact h2.le
  clear h
  go_enter Tryd.func16, Tryd.ntmps16
  go_wp2
  go_loopw [3, 4] (fun v0 i0 wr => ∃ (k : Nat) (ps : List Nat), k ≤ 8 ∧ i0 = .int .i64 ((k : Int) - 1) ∧ Hid (ps ++ be k n = be 8 n) ∧ wr.ownsRow w.heap.size 5 1 v0 ps.length (nums .u8 ps) ∧ Below w.heap.size w wr) (fun _ i0 _ => (intOf i0 + 1).toNat)
  case atStart => exact ⟨8, [], by omega, rfl, hid rfl, own_nil' _ _ _ _, Below.refl _ _⟩
  case round =>
    obtain ⟨k, ps, hk, rfl, hps, hown, hb⟩ := hrel
    have hB := hb.size
    by_cases h0 : 0 < k
    · obtain ⟨j, rfl⟩ : ∃ j, k = j + 1 := ⟨k - 1, by omega⟩
      have hol : ps.length < 4294967296 := by
        have h1 := congrArg List.length hps.out
        simp [be_length] at h1
        omega
      have ej : (((j + 1 : Nat) : Int) - 1) = (j : Int) := by omega
      rw [ej]
      clear ej
      have c1 := (HC.out.below hb).count
      go_wp2_with (at_builtin; refine wpList_push rfl _ _ 54 rfl tyBs w.heap.size hown rfl rfl rfl rfl hol (by decide) hB ?_)
      intro v1 w1 hown1 hb1 hs1 _
      have hown3 := own_snoc hown1 (be_digit n j)
      clear hown1 hown c1
      go_wp2
      go_roundw
      case rel => exact ⟨j, ps ++ [n / 256 ^ j % 256], by omega, rfl, hid (by rw [List.append_assoc]; exact hps.out), hown3, hb.trans hb1⟩
      case measure => simp [intOf]
    · obtain rfl : k = 0 := by omega
      have hps' := hps.out
      simp only [be, List.append_nil] at hps'
      subst hps'
      have HO := hid hown
      have HB := hid hb
      have HC1 := hid (HC.out.below hb)
      clear hown hps hb hk h0
      go_upto_region 8 with (fail)
      obtain ⟨w1, rfl⟩ : ∃ w1, w1 = wr := ⟨_, rfl⟩
      obtain ⟨L, hL, hrg, hel⟩ := HC1.out.kept
      have hiL := hid (show (Tryd.prog.info? 45).map (·.size) = some L.length by rw [hL]; kernel_rfl)
      have HEL := hid hel
      clear hel hL
      go_wp2_with (refine wpList_load_mid rfl _ _ rfl cb 0 rfl L _ hrg Tryd.underlying45 rfl hiL.out ?_)
      clear hrg
      go_loopw [3, 28] (fun v0 x28 wr => ∃ (i : Nat) (ps : List Nat), i ≤ 49 ∧ x28 = .int .i64 i ∧ Hid (ps ++ secB n Kp i (49 - i) = encB n Kp) ∧ Hid (wr.ownsRow w.heap.size 5 1 v0 ps.length (nums .u8 ps)) ∧ Hid (Below w.heap.size w wr)) (fun _ x28 _ => 49 - (intOf x28).toNat)
      case atStart => exact ⟨0, be 8 n, by omega, rfl, hid rfl, HO, HB⟩
      case round =>
        clear HO HB
        obtain ⟨i, ps, hi, rfl, hps, HO, HB⟩ := hrel
        by_cases hlt : i < 49
        · have hix := run_index_kc hlt (HEL.out i hlt)
          have hKi := HC1.out.ok i hlt
          have hz33 : ∀ z : Array Value, z.size = 33 → z.size = (kc (Kp i)).toArray.size := fun z hz => by rw [hz, List.size_toArray, kc_len hKi.2]
          have hiKa := hid (infoKa hKi.2)
          have hoK := hid (all_oneCell_toArray (kc_one (Kp i)))
          go_upto_region 11 with (refine wpList_store_row rfl _ _ _ rfl wr.heap.size (kc (Kp i)).toArray rfl rfl _ _ (heap_alloc_new wr _) hiKa.out (hz33 _ rfl) hoK.out ?_)
          have LA := fun z => laid wr z (kc (Kp i)).toArray 44
          generalize hW : World.setRow _ _ _ = wb
          replace LA := hid (hW ▸ LA _)
          have HBb := hid (HB.out.trans (LA.out.2.mono HB.out.size))
          have HOb := hid (own_below HO.out LA.out.2)
          have RV := hid (rd_mid (o := 1) LA.out.1 (by
            show (nums .u8 (Kp i).2).take _ = _
            rw [List.take_of_length_le (by rw [nums_length]; exact Nat.le_refl _)]) (by rw [hKi.2.1]; decide))
          have HCb := hid (HC.out.below HBb.out)
          have e32 := hKi.2.1
          have hlen := congrArg List.length hps.out
          have hpl : ps.length ≤ 8 + 32 * 49 := by
            have h2 := secB_len (n := n) (fun i hi => (HC1.out.ok i hi).2) 49 0 (by omega)
            simp only [List.length_append, encB, be8, be_length] at hlen
            omega
          clear hW LA hz33 hix hiKa hoK hlen
          rw [e32] at RV
          generalize wr.heap.size = V at *
          have hstep := secB.eq_2 n Kp i (48 - i)
          have e49 : 49 - i = 48 - i + 1 := by omega
          rw [e49, hstep] at hps
          have e48 : 49 - (i + 1) = 48 - i := by omega
          rw [← e48] at hps
          have hB2 := HBb.out.size
          have hwk := hid (fun w h => has_walk i n cb Kp (by omega) w h)
          unfold HasRes at hwk
          by_cases hs : (lastN i n).isSome = true
          · rw [if_pos hs, ← List.append_assoc] at hps
            rw [hs] at hwk
            clear hs hstep e49
            go_wp2_with fail
            refine (hwk.out _ HCb.out).mono ?_
            rintro e w3 ⟨rfl, rfl⟩
            go_wp2_with (at_builtin; refine wpList_cat rfl _ _ 54 rfl tyBs w.heap.size HOb.out rfl rfl RV.out (nums_oneCell _ _) ?c1 ?c2 ?c3 ?_)
            case c1 => omega
            case c2 => unfold maxLen; omega
            case c3 => exact hB2
            intro v2 w2 hown2 hb2 hs2 _
            rw [nums_append] at hown2
            have hown3 := hid (show w2.ownsRow w.heap.size 5 1 v2 (ps ++ (Kp i).2).length (nums .u8 (ps ++ (Kp i).2)) by rw [List.length_append, e32]; exact hown2)
            have HB2 := hid (HBb.out.trans hb2)
            clear hown2 hb2 hs2 HOb RV HCb
            go_wp2
            go_roundw
            case rel => exact ⟨i + 1, ps ++ (Kp i).2, by omega, by go_num, hps, hown3, HB2⟩
            case measure => simp [intOf]; omega
          · have hs' : (lastN i n).isSome = false := by simpa using hs
            rw [if_neg hs, List.nil_append] at hps
            rw [hs'] at hwk
            clear hs hs' hstep e49
            go_wp2_with fail
            refine (hwk.out _ HCb.out).mono ?_
            rintro e w3 ⟨rfl, rfl⟩
            go_wp2
            go_roundw
            case rel => exact ⟨i + 1, ps, by omega, by go_num, hps, HOb, HBb⟩
            case measure => simp [intOf]; omega
        · have hi49 : i = 49 := by omega
          subst hi49
          have hps' := hps.out
          simp only [Nat.sub_self, secB, List.append_nil] at hps'
          have HO' := hid (hps' ▸ HO.out)
          clear hps hps'
          go_wp2
          go_ret
          exact ⟨_, rfl, HO'.out, HB.out⟩
end Go.Proofs.YtnfklnbdebcpiaaDoor
