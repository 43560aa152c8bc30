/- The walk of (*sha.Hasher).Write. -/
import Derived.Test.YtnophelfpoldfaaGreatDoorGShaW
import Derived.Test.YtnophelfpoldfaaGreatDoorGShaH
import Derived.Deep.RegionHeld3
import Derived.Test.YtnophelfpoldfaaGreatDoorGShaP
namespace Go.Proofs.YtnophelfpoldfaaGreatDoor
open Go.RowKit

def lenV : Value → Nat
  | .slice _ l _ => l
  | _ => 0
@[simp] theorem lenV_slice (a : Option Addr) (l c : Nat) : lenV (.slice a l c) = l := rfl
def VRel (H ho : Nat) (T : TypeId) (cur : Array Value) (A : List Nat) (w0 : World) (x1 : Value) (wr : World) : Prop :=
  ∃ (a' : Option Addr) (c' : Nat) (xs : List Nat) (q : Nat) (cur' : Array Value) (S' R' : List Nat), .slice a' xs.length c' = x1 ∧ Sl .u8 w0 a' xs.length c' xs ∧ ApH H a' xs.length ∧ (∀ d ∈ xs, d < 256) ∧ (∀ d ∈ R', d < 256) ∧
    Hid (xs = A.drop (64 * q) ∧ 64 * q ≤ A.length ∧ S' = runB K0 H0 A q) ∧ wr.heap[H]? = some (.cells cur' T (0, 0)) ∧ HsAt cur' ho S' R' 0 A.length ∧ OutEq ho cur cur' ∧ Far H w0 wr
theorem Far.sl {H : Nat} {w w' : World} {k : IntKind} {a : Option Addr} {n cap : Nat} {xs : List Nat} (h : Sl k w a n cap xs) (hf : Far H w w') (hne : ApH H a n) : Sl k w' a n cap xs := by
  rcases Nat.eq_zero_or_pos n with h0 | h0
  · subst h0
    have hx : xs = [] := List.eq_nil_of_length_eq_zero h.len
    subst hx
    obtain ⟨h1, h2, h3, h4, b, off, ha, hc⟩ := h
    exact ⟨h1, h2, h3, h4, b, off, ha, by simp [nums]⟩
  · exact Far.rd h hf (hne h0)
set_option maxRecDepth 100000 in
set_option maxHeartbeats 4000000 in
theorem write_walk (H ho : Nat) (T : TypeId) (cur : Array Value) (S R : List Nat) (k : Nat) (all : List Nat) (a : Option Addr) (m cap : Nat) (bs : List Nat) (w : World) (hH : w.heap[H]? = some (.cells cur T (0, 0)))
    (hA : HsAt cur ho S R k all.length) (hT : Took all S R k) (hS : Sl .u8 w a m cap bs) (hap : ApH H a m) (hb : ∀ d ∈ bs, d < 256) (hlen : all.length + m < 2305843009213693952) (ht : Tabs w) (hg0 : H ≠ 1) (hg1 : H ≠ 2) :
    Calls Tryz.prog 60 #[.pointer (some ⟨H, ho, none⟩), .slice a m cap] w (WrRes H ho T cur (all ++ bs) w) := by
  have HL := hid hS.len
  have HS := hid hS
  have HX := hid hb
  have HT := hid ht
  have HA := hid hA
  have HTK := hid hT
  have HAP := hid hap
  have HH := hid hH
  have cn : w.cell? ⟨H, ho + 73, none⟩ = some (.int .u64 (all.length : Int)) := by rw [cell_of_row w H _ cur T (0, 0) hH]; exact hA.n
  have ck : w.cell? ⟨H, ho + 72, none⟩ = some (.int .i64 (k : Int)) := by rw [cell_of_row w H _ cur T (0, 0) hH]; exact hA.k
  have fz := fun j => frozen_of_row w H j cur T hH
  have fz73 := fz (ho + 73)
  have fz72 := fz (ho + 72)
  have hlA := hid (show (all ++ bs).length = all.length + m by rw [List.length_append, hS.len])
  obtain ⟨N, hN⟩ : ∃ N : Nat, N = all.length := ⟨_, rfl⟩
  have HN := hid hN
  have hk64 : k < 64 := by rw [hT.kk]; exact Nat.mod_lt _ (by omega)
  rw [← hN] at cn hlen
  obtain ⟨N2, hN2⟩ : ∃ N2 : Nat, N2 = N + m := ⟨_, rfl⟩
  have e2 : (N : Int) + (m : Int) = (N2 : Int) := by omega
  have HN2 := hid hN2
  have hN264 : N2 < 18446744073709551616 := by omega
  have hWm : IntKind.u64.wrap (m : Int) = (m : Int) := by
    have : m < 18446744073709551616 := by omega
    clear hN hN2 e2
    simp [IntKind.wrap, IntKind.signed, IntKind.bits]; omega
  have hm62 : m < 2305843009213693952 := by omega
  have hA1 := HA.out.setN N2
  have HA1 := hid hA1.1
  have HQ1 := hid hA1.2
  have hh1 := hid (heap_setCell_same w H (ho + 73) cur T (.int .u64 (N2 : Int)) hH)
  have hf1 := hid (Far.set (H := H) (j := ho + 73) (w := w) (.int .u64 (N2 : Int)))
  have hN2A := hid (show N2 = (all ++ bs).length by rw [hlA.out]; omega)
  generalize hcur1 : cur.setIfInBounds (ho + 73) (.int .u64 (N2 : Int)) = cur1 at *
  clear hH hA hT hS hap hb ht fz hA1 hN hN2 hcur1 hlen
  rcases Nat.eq_zero_or_pos k with hk0 | hk0
  · have tk : decide ((k : Int) > 0) = false := by rw [decide_eq_false_iff_not]; omega
    have tk2 : decide (0 < k) = false := by rw [decide_eq_false_iff_not]; omega
    have hk0' := hid hk0
    clear hk0
    go_enter Tryz.func60, Tryz.ntmps60
    go_wp2
    generalize hW1 : w.setCell ⟨H, ho + 73, none⟩ (.int .u64 (N2 : Int)) = W1 at *
    have HA0 := hid (show HsAt cur1 ho S R 0 N2 by have := HA1.out; rw [hk0'.out] at this; exact this)
    obtain ⟨z1, z2, z3⟩ := (show Took all S R 0 by have := HTK.out; rw [hk0'.out] at this; exact this).zero (bs := bs)
    have Z := hid (And.intro z1 (And.intro z3 z2))
    clear z1 z2 z3 hW1 cn ck
    go_loopw [1] (fun x1 wr => VRel H ho T cur (all ++ bs) w x1 wr) (fun x1 _ => lenV x1)
    case atStart => exact ⟨a, cap, bs, _, cur1, S, R, by rw [HL.out], by rw [HL.out]; exact HS.out, by rw [HL.out]; exact HAP.out, HX.out, HTK.out.b, Z, hh1.out, by rw [← hN2A.out]; exact HA0.out, HQ1.out, hf1.out⟩
    case round =>
      obtain ⟨a', c', xs, q, cur', S', R', rfl, hs, hap', hx, hr, hz, hh, hA', ho', hf⟩ := hrel
      have HS' := hid hs
      have HX' := hid hx
      have HR' := hid hr
      have HAP' := hid hap'
      have HF' := hid hf
      have HH' := hid hh
      have HA' := hid hA'
      have HO' := hid ho'
      have HSr := hid (Far.sl hs hf hap')
      have hz3 := hz.out.2.2
      have ck' : wr.cell? ⟨H, ho + 72, none⟩ = some (.int .i64 ((0 : Nat) : Int)) := by rw [cell_of_row wr H _ cur' T (0, 0) hh]; exact hA'.k
      have fz' := frozen_of_row wr H (ho + 72) cur' T hh
      have hc' : xs.length ≤ c' := hs.2.1
      have hxl : xs.length ≤ (all ++ bs).length := by rw [hz.out.1, List.length_drop]; omega
      rw [← hN2A.out] at hxl
      clear hs hx hr hap' hf hh hA' ho' Z hh1 hf1 HA1 HA0 HQ1
      by_cases hge : 64 ≤ xs.length
      · obtain ⟨b2, o2, ha2, _⟩ := HSr.out.opened
        obtain rfl := ha2 (by omega)
        have i1 : (64 : Int) ≤ (xs.length : Int) := by omega
        have i2 : (64 : Int) ≤ (c' : Int) := by omega
        have tg : decide (xs.length ≥ 64) = true := decide_eq_true hge
        have S64 := hid (HSr.out.take (m := 64) hge)
        have X64 := hid (show ∀ d ∈ xs.take 64, d < 256 from fun d hd => HX'.out d (List.mem_of_mem_take hd))
        have hS8 := HA'.out.sl
        have hS32 := hid (show ∀ d ∈ S', d < 4294967296 by rw [hz3]; exact runB_lt H0_lt q)
        have HTr := hid (HT.out.far HF'.out hg0 hg1)
        clear ck' ha2
        go_wp2_with fail
        go_region_held3 (fun _ => True) (exact trivial)
          (first
            | (go_at_call 75; (with_reducible refine (mix_walk H ho T cur' S' b2 o2 c' (xs.take 64) _ ?_ HA'.out.s hS32.out hS8 ?_ X64.out ?_).mono ?_); exact HH'.out; exact S64.out.below ((Below.refl _ _).drew); exact HTr.out.below ((Below.refl _ _).drew); rintro e wA ⟨rfl, fA, hA2⟩))
        have HX2 := hid hA2
        have HF2 := hid ((HF'.out.trans (Far.of (Below.refl _ _).drew)).trans fA)
        have HM := hid (HA'.out.mixed (L := comp K0 S' (xs.take 64)) (comp_len hS8))
        clear hA2 fA HTr
        go_wp2_with (refine wpList_cutG (m := 64) rfl _ _ rfl HS'.out rfl rfl hge ?_)
        intro ad' s2 ap2
        have HS2 := hid s2
        have HP2 := hid (ap2 H HAP'.out)
        clear s2 ap2
        go_wp2
        go_roundw
        case rel => exact ⟨ad', c' - 64, xs.drop 64, q + 1, _, _, R', by rw [List.length_drop], by rw [List.length_drop]; exact HS2.out, by rw [List.length_drop]; exact HP2.out, fun d hd => HX'.out d (List.mem_of_mem_drop hd), HR'.out,
          hid ⟨by rw [hz.out.1, List.drop_drop, show 64 * q + 64 = 64 * (q + 1) by omega], by have h1 := hz.out.1; have h2 := hz.out.2.1; rw [h1, List.length_drop] at hge; omega, by rw [runB, ← hz3, ← hz.out.1]⟩, HX2.out, HM.out.1, HO'.out.trans HM.out.2, HF2.out⟩
        case measure => simp; omega
      · have tg : decide (xs.length ≥ 64) = false := decide_eq_false hge
        have hmin : Nat.min xs.length 64 = xs.length := Nat.min_eq_left (by omega)
        have hfit := HA'.out.sz
        go_wp2_with (refine wpList_copyF rfl _ _ _ _ rfl Tryz.underlying22 szU8m rfl rfl HH'.out HSr.out (nums_oneCell _ _) (show ho + 8 + 64 ≤ cur'.size by omega) ?_)
        intro w2 hh2 hf2
        rw [List.take_of_length_le (l := nums .u8 xs) (by rw [nums_length]; exact Nat.le_refl _)] at hh2
        have HM := hid (HA'.out.copied (ds := xs) (off := 0) (by omega))
        rw [Nat.add_zero] at HM
        have HK := hid (HM.out.1.setK xs.length)
        have HH3 := hid (heap_setCell_same w2 H (ho + 72) _ T (.int .i64 (xs.length : Int)) hh2)
        have HF3 := hid ((HF'.out.trans hf2).trans (Far.set (H := H) (j := ho + 72) (w := w2) (.int .i64 (xs.length : Int))))
        have ck2 : w2.cell? ⟨H, ho + 72, none⟩ = some (.int .i64 ((0 : Nat) : Int)) := by rw [cell_of_row w2 H _ _ T (0, 0) hh2]; exact HM.out.1.k
        have fz2 := frozen_of_row w2 H (ho + 72) _ T hh2
        have TK := hid (Took.last hz.out.1 hz.out.2.1 hz3 (by omega) HA'.out.rl HR'.out HX'.out)
        have FIN := hid (show WrRes H ho T cur (all ++ bs) w (.returned (.tuple #[])) (w2.setCell ⟨H, ho + 72, none⟩ (.int .i64 (xs.length : Int))) from ⟨rfl, HF3.out, _, _, _, _, HH3.out, (HO'.out.trans HM.out.2).trans HK.out.2, HK.out.1, TK.out⟩)
        clear hh2 hf2 ck' fz' hz3 hmin
        go_wp2
        go_end0
        exact FIN.out
  · have tk : decide ((k : Int) > 0) = true := by rw [decide_eq_true_eq]; omega
    have tk2 : decide (0 < k) = true := by rw [decide_eq_true_eq]; omega
    have i1 : (0 : Int) ≤ (k : Int) := by omega
    have i2 : (k : Int) ≤ 64 := by omega
    have n64 : ¬ 64 = k := by omega
    have ck1 : (w.setCell ⟨H, ho + 73, none⟩ (.int .u64 (N2 : Int))).cell? ⟨H, ho + 72, none⟩ = some (.int .i64 (k : Int)) := by rw [cell_of_row _ H _ _ T (0, 0) hh1.out]; exact HA1.out.k
    have S1 := hid (Far.sl HS.out hf1.out HAP.out)
    have hsz := HA1.out.sz
    by_cases hfull : k + m < 64
    · go_enter Tryz.func60, Tryz.ntmps60
      go_wp2
      generalize hW1 : w.setCell ⟨H, ho + 73, none⟩ (.int .u64 (N2 : Int)) = W1 at *
      clear hW1 cn ck fz73
      go_region_law (first | (refine step_copyF rfl (.tmp 29) (.tmp 30) _ _ rfl Tryz.underlying22 szU8m rfl rfl hh1.out S1.out (nums_oneCell _ _) (show ho + 8 + k + (64 - k) ≤ cur1.size by omega) ?_; intro w2 hh2 hf2))
      rw [show Nat.min m (64 - k) = m from Nat.min_eq_left (by omega)] at hh2 ⊢
      rw [List.take_of_length_le (l := nums .u8 bs) (by rw [nums_length, HL.out]; exact Nat.le_refl _)] at hh2
      have HM := hid (HA1.out.copied (ds := bs) (off := k) (by rw [HL.out]; omega))
      have hh2' := hid hh2
      have HF2 := hid ((hf1.out.trans (Far.of (Below.refl _ _).drew)).trans hf2)
      obtain ⟨k2, hk2⟩ : ∃ k2 : Nat, k2 = k + m := ⟨_, rfl⟩
      have e3 : (k : Int) + (m : Int) = (k2 : Int) := by omega
      have hlt2 : k2 < 64 := by omega
      have HK2 := hid hk2
      have ck2 : w2.cell? ⟨H, ho + 72, none⟩ = some (.int .i64 (k : Int)) := by rw [cell_of_row w2 H _ _ T (0, 0) hh2]; exact HM.out.1.k
      have fz2 := frozen_of_row w2 H (ho + 72) _ T hh2
      have HK := hid (HM.out.1.setK k2)
      have HH3 := hid (heap_setCell_same w2 H (ho + 72) _ T (.int .i64 (k2 : Int)) hh2)
      have HF3 := hid (HF2.out.trans (Far.set (H := H) (j := ho + 72) (w := w2) (.int .i64 (k2 : Int))))
      have TK := hid (show Took (all ++ bs) S (splice R k bs) k2 by have := HTK.out.fill (bs := bs) (by rw [HL.out]; omega) HX.out; rw [HL.out, ← hk2] at this; exact this)
      have FIN := hid (show WrRes H ho T cur (all ++ bs) w (.returned (.tuple #[])) (w2.setCell ⟨H, ho + 72, none⟩ (.int .i64 (k2 : Int))) from ⟨rfl, HF3.out, _, _, _, _, HH3.out, (HQ1.out.trans HM.out.2).trans HK.out.2, by rw [← hN2A.out]; exact HK.out.1, TK.out⟩)
      have hmm : m ≤ m := Nat.le_refl _
      clear hh2 hf2 hk2 ck1 hlA hN2A
      go_wp2_with (refine wpList_cutG (m := m) rfl _ _ rfl HS.out rfl rfl hmm ?_)
      intro ad' s2 ap2
      clear s2 ap2
      go_wp2
      go_end0
      exact FIN.out
    · go_enter Tryz.func60, Tryz.ntmps60
      go_wp2
      generalize hW1 : w.setCell ⟨H, ho + 73, none⟩ (.int .u64 (N2 : Int)) = W1 at *
      clear hW1 cn ck fz73
      go_region_law (first | (refine step_copyF rfl (.tmp 29) (.tmp 30) _ _ rfl Tryz.underlying22 szU8m rfl rfl hh1.out S1.out (nums_oneCell _ _) (show ho + 8 + k + (64 - k) ≤ cur1.size by omega) ?_; intro w2 hh2 hf2))
      have hk64' : (64 - k) ≤ m := by omega
      rw [show Nat.min m (64 - k) = 64 - k from Nat.min_eq_right hk64'] at hh2 ⊢
      obtain ⟨fu1, fu2, fu3, fu4⟩ := HTK.out.full (bs := bs) hk0 (by rw [HL.out]; omega)
      have ent : (nums .u8 bs).take (64 - k) = nums .u8 (bs.take (64 - k)) := by simp [nums, List.map_take]
      rw [ent] at hh2
      have htl : (bs.take (64 - k)).length = 64 - k := by rw [List.length_take, HL.out]; omega
      have HM := hid (HA1.out.copied (ds := bs.take (64 - k)) (off := k) (by rw [htl]; omega))
      rw [fu1] at HM
      have HF2 := hid ((hf1.out.trans (Far.of (Below.refl _ _).drew)).trans hf2)
      obtain ⟨j, hj⟩ : ∃ j : Nat, j = 64 - k := ⟨_, rfl⟩
      rw [← hj] at hh2 ⊢
      have e3 : (k : Int) + (j : Int) = 64 := by omega
      have hjm : j ≤ m := by omega
      rw [← hj] at fu3 HM htl
      generalize hc2 : (splice cur1.toList (ho + 8 + k) (nums .u8 (bs.take j))).toArray = cur2 at *
      have ck2 : w2.cell? ⟨H, ho + 72, none⟩ = some (.int .i64 (k : Int)) := by rw [cell_of_row w2 H _ _ T (0, 0) hh2]; exact HM.out.1.k
      have fz2 := frozen_of_row w2 H (ho + 72) _ T hh2
      have HK := hid (HM.out.1.setK 64)
      have HH3 := hid (heap_setCell_same w2 H (ho + 72) _ T (.int .i64 (64 : Int)) hh2)
      have HF3 := hid (HF2.out.trans (Far.set (H := H) (j := ho + 72) (w := w2) (.int .i64 (64 : Int))))
      rw [show ((64 : Nat) : Int) = (64 : Int) from rfl] at HK
      have HQ3 := hid ((HQ1.out.trans HM.out.2).trans HK.out.2)
      generalize hc3 : cur2.setIfInBounds (ho + 72) (.int .i64 (64 : Int)) = cur3 at *
      have HX3 := hid (show ∀ d ∈ ((all ++ bs).drop (64 * (all.length / 64))).take 64, d < 256 from fun d hd => by
        rw [← fu1] at hd
        exact splice_lt HTK.out.b (fun d hd => HX.out d (List.mem_of_mem_take hd)) d hd)
      clear hc3
      have Z1 := hid fu2
      have Z2 := hid fu3
      have Z3 := hid fu4
      have HJ := hid hj
      clear hh2 hf2 hj ck1 fu1 fu2 fu3 fu4 ent htl hk64' hc2
      go_wp2_with (refine wpList_cutG (m := j) rfl _ _ rfl HS.out rfl rfl hjm ?_)
      intro ad' s2 ap2
      have HS2 := hid s2
      have HP2 := hid (ap2 H HAP.out)
      clear s2 ap2
      go_wp2
      generalize hW3 : w2.setCell ⟨H, ho + 72, none⟩ (.int .i64 64) = W3 at *
      have HR3 := hid (HK.out.1.rest (w := W3) HH3.out)
      have HT3 := hid (HT.out.far HF3.out hg0 hg1)
      have HS32 := hid (show ∀ d ∈ S, d < 4294967296 by rw [Z1.out]; exact runB_lt H0_lt _)
      have HS8 := hid HK.out.1.sl
      clear hW3 ck2 fz2
      go_region_held3 (fun _ => True) (exact trivial)
        (first
          | (go_at_call 75; (with_reducible refine (mix_walk H ho T cur3 S H (ho + 8) 64 _ _ ?_ HK.out.1.s HS32.out HS8.out ?_ HX3.out ?_).mono ?_); exact HH3.out; exact HR3.out.below ((Below.refl _ _).drew); exact HT3.out.below ((Below.refl _ _).drew); rintro e wA ⟨rfl, fA, hA2⟩))
      have HM2 := hid (HK.out.1.mixed (L := comp K0 S (((all ++ bs).drop (64 * (all.length / 64))).take 64)) (comp_len HS8.out))
      have HFA := hid ((HF3.out.trans (Far.of (Below.refl _ _).drew)).trans fA)
      have hh4 := hA2
      generalize hc4 : putN cur3 ho (comp K0 S (((all ++ bs).drop (64 * (all.length / 64))).take 64)) 8 = cur4 at *
      have ck4 : wA.cell? ⟨H, ho + 72, none⟩ = some (.int .i64 64) := by rw [cell_of_row wA H _ _ T (0, 0) hh4]; exact HM2.out.1.k
      have fz4 := frozen_of_row wA H (ho + 72) _ T hh4
      have HK5 := hid (HM2.out.1.setK 0)
      rw [show ((0 : Nat) : Int) = (0 : Int) from rfl] at HK5
      have HH5 := hid (heap_setCell_same wA H (ho + 72) _ T (.int .i64 (0 : Int)) hh4)
      have HF5 := hid (HFA.out.trans (Far.set (H := H) (j := ho + 72) (w := wA) (.int .i64 (0 : Int))))
      have HQ5 := hid ((HQ3.out.trans HM2.out.2).trans HK5.out.2)
      have HX5 := hid (show ∀ d ∈ bs.drop j, d < 256 from fun d hd => HX.out d (List.mem_of_mem_drop hd))
      have HL5 := hid (show (bs.drop j).length = m - j by rw [List.length_drop, HL.out])
      have Z5 := hid (show bs.drop j = (all ++ bs).drop (64 * (all.length / 64 + 1)) ∧ 64 * (all.length / 64 + 1) ≤ (all ++ bs).length ∧ comp K0 S (((all ++ bs).drop (64 * (all.length / 64))).take 64) = runB K0 H0 (all ++ bs) (all.length / 64 + 1) from
        ⟨Z2.out, Z3.out, by rw [runB, ← Z1.out]⟩)
      clear hh4 hA2 fA hc4
      go_wp2
      generalize hW5 : wA.setCell ⟨H, ho + 72, none⟩ (.int .i64 0) = W5 at *
      clear hW5 ck4 fz4
      go_loopw [1] (fun x1 wr => VRel H ho T cur (all ++ bs) w x1 wr) (fun x1 _ => lenV x1)
      case atStart => exact ⟨ad', cap - j, bs.drop j, _, _, _, _, by rw [HL5.out], by rw [HL5.out]; exact HS2.out, by rw [HL5.out]; exact HP2.out, HX5.out, HX3.out, Z5, HH5.out, by rw [← hN2A.out]; exact HK5.out.1, HQ5.out, HF5.out⟩
      case round =>
        obtain ⟨a', c', xs, q, cur', S', R', rfl, hs, hap', hx, hr, hz, hh, hA', ho', hf⟩ := hrel
        have HS' := hid hs
        have HX' := hid hx
        have HR' := hid hr
        have HAP' := hid hap'
        have HF' := hid hf
        have HH' := hid hh
        have HA' := hid hA'
        have HO' := hid ho'
        have HSr := hid (Far.sl hs hf hap')
        have hz3 := hz.out.2.2
        have ck' : wr.cell? ⟨H, ho + 72, none⟩ = some (.int .i64 ((0 : Nat) : Int)) := by rw [cell_of_row wr H _ cur' T (0, 0) hh]; exact hA'.k
        have fz' := frozen_of_row wr H (ho + 72) cur' T hh
        have hc' : xs.length ≤ c' := hs.2.1
        have hxl : xs.length ≤ (all ++ bs).length := by rw [hz.out.1, List.length_drop]; omega
        rw [← hN2A.out] at hxl
        clear hs hx hr hap' hf hh hA' ho' Z5 HH5 HK5 HQ5 HX5 HL5 HF5 HQ3 HM2 HFA Z1 Z2 Z3
        by_cases hge : 64 ≤ xs.length
        · obtain ⟨b2, o2, ha2, _⟩ := HSr.out.opened
          obtain rfl := ha2 (by omega)
          have i1 : (64 : Int) ≤ (xs.length : Int) := by omega
          have i2 : (64 : Int) ≤ (c' : Int) := by omega
          have tg : decide (xs.length ≥ 64) = true := decide_eq_true hge
          have S64 := hid (HSr.out.take (m := 64) hge)
          have X64 := hid (show ∀ d ∈ xs.take 64, d < 256 from fun d hd => HX'.out d (List.mem_of_mem_take hd))
          have hS8 := HA'.out.sl
          have hS32 := hid (show ∀ d ∈ S', d < 4294967296 by rw [hz3]; exact runB_lt H0_lt q)
          have HTr := hid (HT.out.far HF'.out hg0 hg1)
          clear ck' ha2
          go_wp2_with fail
          go_region_held3 (fun _ => True) (exact trivial)
            (first
              | (go_at_call 75; (with_reducible refine (mix_walk H ho T cur' S' b2 o2 c' (xs.take 64) _ ?_ HA'.out.s hS32.out hS8 ?_ X64.out ?_).mono ?_); exact HH'.out; exact S64.out.below ((Below.refl _ _).drew); exact HTr.out.below ((Below.refl _ _).drew); rintro e wA ⟨rfl, fA, hA2⟩))
          have HX2 := hid hA2
          have HF2 := hid ((HF'.out.trans (Far.of (Below.refl _ _).drew)).trans fA)
          have HM := hid (HA'.out.mixed (L := comp K0 S' (xs.take 64)) (comp_len hS8))
          clear hA2 fA HTr
          go_wp2_with (refine wpList_cutG (m := 64) rfl _ _ rfl HS'.out rfl rfl hge ?_)
          intro ad' s2 ap2
          have HS2 := hid s2
          have HP2 := hid (ap2 H HAP'.out)
          clear s2 ap2
          go_wp2
          go_roundw
          case rel => exact ⟨ad', c' - 64, xs.drop 64, q + 1, _, _, R', by rw [List.length_drop], by rw [List.length_drop]; exact HS2.out, by rw [List.length_drop]; exact HP2.out, fun d hd => HX'.out d (List.mem_of_mem_drop hd), HR'.out,
            hid ⟨by rw [hz.out.1, List.drop_drop, show 64 * q + 64 = 64 * (q + 1) by omega], by have h1 := hz.out.1; have h2 := hz.out.2.1; rw [h1, List.length_drop] at hge; omega, by rw [runB, ← hz3, ← hz.out.1]⟩, HX2.out, HM.out.1, HO'.out.trans HM.out.2, HF2.out⟩
          case measure => simp; omega
        · have tg : decide (xs.length ≥ 64) = false := decide_eq_false hge
          have hmin : Nat.min xs.length 64 = xs.length := Nat.min_eq_left (by omega)
          have hfit := HA'.out.sz
          go_wp2_with (refine wpList_copyF rfl _ _ _ _ rfl Tryz.underlying22 szU8m rfl rfl HH'.out HSr.out (nums_oneCell _ _) (show ho + 8 + 64 ≤ cur'.size by omega) ?_)
          intro w2 hh2 hf2
          rw [List.take_of_length_le (l := nums .u8 xs) (by rw [nums_length]; exact Nat.le_refl _)] at hh2
          have HM := hid (HA'.out.copied (ds := xs) (off := 0) (by omega))
          rw [Nat.add_zero] at HM
          have HK := hid (HM.out.1.setK xs.length)
          have HH3 := hid (heap_setCell_same w2 H (ho + 72) _ T (.int .i64 (xs.length : Int)) hh2)
          have HF3 := hid ((HF'.out.trans hf2).trans (Far.set (H := H) (j := ho + 72) (w := w2) (.int .i64 (xs.length : Int))))
          have ck2 : w2.cell? ⟨H, ho + 72, none⟩ = some (.int .i64 ((0 : Nat) : Int)) := by rw [cell_of_row w2 H _ _ T (0, 0) hh2]; exact HM.out.1.k
          have fz2 := frozen_of_row w2 H (ho + 72) _ T hh2
          have TK := hid (Took.last hz.out.1 hz.out.2.1 hz3 (by omega) HA'.out.rl HR'.out HX'.out)
          have FIN := hid (show WrRes H ho T cur (all ++ bs) w (.returned (.tuple #[])) (w2.setCell ⟨H, ho + 72, none⟩ (.int .i64 (xs.length : Int))) from ⟨rfl, HF3.out, _, _, _, _, HH3.out, (HO'.out.trans HM.out.2).trans HK.out.2, HK.out.1, TK.out⟩)
          clear hh2 hf2 ck' fz' hz3 hmin
          go_wp2
          go_end0
          exact FIN.out
end Go.Proofs.YtnophelfpoldfaaGreatDoor

/- The walks of sha.New and sha.Sum. -/
namespace Go.Proofs.YtnophelfpoldfaaGreatDoor
open Go.RowKit

noncomputable def hs0 : Array Value := ((((((((Tryz.zeroCells126.setIfInBounds 0 (.int .u32 1779033703)).setIfInBounds 1 (.int .u32 3144134277)).setIfInBounds 2 (.int .u32 1013904242)).setIfInBounds 3 (.int .u32 2773480762)).setIfInBounds 4 (.int .u32 1359893119)).setIfInBounds 5 (.int .u32 2600822924)).setIfInBounds 6 (.int .u32 528734635)).setIfInBounds 7 (.int .u32 1541459225))
theorem hs0_list : hs0.toList = nums .u32 H0 ++ (nums .u8 (List.replicate 64 0) ++ [.int .i64 ((0 : Nat) : Int), .int .u64 ((0 : Nat) : Int)]) := by kernel_rfl
theorem HsAt.ofList {cur : Array Value} {S R : List Nat} {k n : Nat} (hS : S.length = 8) (hR : R.length = 64) (h : cur.toList = nums .u32 S ++ (nums .u8 R ++ [.int .i64 (k : Int), .int .u64 (n : Int)])) : HsAt cur 0 S R k n := by
  have hsz : cur.size = 74 := by
    have := congrArg List.length h
    simpa [hS, hR] using this
  have g : ∀ j : Nat, cur[j]? = (nums .u32 S ++ (nums .u8 R ++ [.int .i64 (k : Int), .int .u64 (n : Int)]))[j]? := by
    intro j; rw [← h]; simp
  refine ⟨hS, hR, by omega, fun i hi => ?_, fun i hi => ?_, ?_, ?_⟩
  · rw [g, List.getElem?_append_left (by simp; omega), Nat.zero_add, nums_get .u32 (by omega)]
  · rw [g, List.getElem?_append_right (by simp; omega), List.getElem?_append_left (by simp; omega), show 0 + 8 + i - (nums IntKind.u32 S).length = i by rw [nums_length, hS]; omega, nums_get .u8 (by omega)]
  · rw [g, List.getElem?_append_right (by simp; omega), List.getElem?_append_right (by simp; omega), nums_length, nums_length, hS, hR]; rfl
  · rw [g, List.getElem?_append_right (by simp; omega), List.getElem?_append_right (by simp; omega), nums_length, nums_length, hS, hR]; rfl
theorem hs0_at : HsAt hs0 0 H0 (List.replicate 64 0) 0 0 := HsAt.ofList rfl (by rw [List.length_replicate]) hs0_list
theorem rep_lt : ∀ d ∈ List.replicate 64 0, d < 256 := by intro d hd; rw [List.eq_of_mem_replicate hd]; decide
def NewRes (w : World) (e : Ending) (w' : World) : Prop := ∃ g cur T, e = .returned (.pointer (some ⟨g, 0, none⟩)) ∧ w.heap.size ≤ g ∧ Below w.heap.size w w' ∧ w'.heap[g]? = some (.cells cur T (0, 0)) ∧ HsAt cur 0 H0 (List.replicate 64 0) 0 0
set_option maxRecDepth 100000 in
theorem new_walk (w : World) (ht : Tabs w) : Calls Tryz.prog 59 #[] w (NewRes w) := by
  have t0 : w.cell? ⟨1, 0, none⟩ = some (.int .u32 1779033703) := ht.1 0 (by decide)
  have t1 : w.cell? ⟨1, 1, none⟩ = some (.int .u32 3144134277) := ht.1 1 (by decide)
  have t2 : w.cell? ⟨1, 2, none⟩ = some (.int .u32 1013904242) := ht.1 2 (by decide)
  have t3 : w.cell? ⟨1, 3, none⟩ = some (.int .u32 2773480762) := ht.1 3 (by decide)
  have t4 : w.cell? ⟨1, 4, none⟩ = some (.int .u32 1359893119) := ht.1 4 (by decide)
  have t5 : w.cell? ⟨1, 5, none⟩ = some (.int .u32 2600822924) := ht.1 5 (by decide)
  have t6 : w.cell? ⟨1, 6, none⟩ = some (.int .u32 528734635) := ht.1 6 (by decide)
  have t7 : w.cell? ⟨1, 7, none⟩ = some (.int .u32 1541459225) := ht.1 7 (by decide)
  have FIN := hid (show NewRes w (.returned (.pointer (some ⟨w.heap.size, 0, none⟩))) (w.alloc (.cells hs0 126)) from ⟨_, _, _, rfl, Nat.le_refl _, (Below.refl _ _).alloc (Nat.le_refl _) _, heap_alloc_new w _, hs0_at⟩)
  clear ht
  go_enter Tryz.func59, Tryz.ntmps59
  go_wp2
  go_ret
  exact FIN.out
end Go.Proofs.YtnophelfpoldfaaGreatDoor

/- Plain: what is laid behind the bytes, as the program lays it. No program in sight. -/
namespace Go.Proofs.YtnophelfpoldfaaGreatDoor
open Go.RowKit

theorem beN_len (n x : Nat) : (beN n x).length = n := by
  induction n with
  | zero => rfl
  | succ n ih => simp [beN, ih]
theorem beN_lt (n x : Nat) : ∀ d ∈ beN n x, d < 256 := by
  induction n with
  | zero => simp [beN]
  | succ n ih =>
    intro d hd
    simp only [beN, List.mem_cons] at hd
    rcases hd with rfl | hd
    · omega
    · exact ih d hd
def setsE (E : List Nat) (sz X : Nat) : Nat → List Nat
  | 0 => E
  | i + 1 => (setsE E sz X i).set (sz - 1 - i) (X / 256 ^ i % 256)
theorem setsE_len (E : List Nat) (sz X i : Nat) : (setsE E sz X i).length = E.length := by
  induction i with
  | zero => rfl
  | succ i ih => simp [setsE, ih]
theorem setsE_eq (E : List Nat) (sz X i : Nat) (hi : i ≤ sz) (hs : sz ≤ E.length) : setsE E sz X i = E.take (sz - i) ++ (beN i X ++ E.drop sz) := by
  induction i with
  | zero => simp [setsE, beN]
  | succ i ih =>
    obtain ⟨m, hm⟩ : ∃ m, sz - i = m + 1 := ⟨sz - i - 1, by omega⟩
    have h1 : sz - 1 - i = m := by omega
    have h2 : sz - (i + 1) = m := by omega
    rw [setsE, ih (by omega), hm, h1, h2, beN]
    rw [List.take_succ_eq_append_getElem (by omega), List.append_assoc, List.set_append_right _ _ (by simp; omega)]
    simp [Nat.min_eq_left (show m ≤ E.length by omega)]
def szOf (k : Nat) : Nat := if k < 56 then 64 else 128
/-- the end as the program lays it -/
def endE (D : List Nat) (n : Nat) : List Nat := setsE (D ++ 128 :: List.replicate (127 - D.length) 0) (szOf D.length) (n * 8 % 18446744073709551616) 8
theorem endE_len {D : List Nat} {n : Nat} (h : D.length < 64) : (endE D n).length = 128 := by
  unfold endE
  rw [setsE_len]
  simp
  omega
theorem endE_eq {D : List Nat} {n : Nat} (hk : D.length = n % 64) : (endE D n).take (szOf D.length) = D ++ padN n := by
  have hlt : D.length < 64 := by omega
  have hsz : szOf D.length = 64 ∧ D.length < 56 ∨ szOf D.length = 128 ∧ ¬ D.length < 56 := by
    unfold szOf
    split
    · exact .inl ⟨rfl, by assumption⟩
    · exact .inr ⟨rfl, by assumption⟩
  have hl : (D ++ 128 :: List.replicate (127 - D.length) 0).length = 128 := by simp; omega
  unfold endE
  rw [setsE_eq _ _ _ _ (by omega) (by omega)]
  have e1 : (D ++ 128 :: List.replicate (127 - D.length) 0).take (szOf D.length - 8) = D ++ 128 :: List.replicate (szOf D.length - 8 - D.length - 1) 0 := by
    rw [List.take_append, List.take_of_length_le (by omega)]
    obtain ⟨m, hm⟩ : ∃ m, szOf D.length - 8 - D.length = m + 1 := ⟨szOf D.length - 8 - D.length - 1, by omega⟩
    rw [hm, List.take_succ_cons, List.take_replicate, Nat.min_eq_left (by omega), Nat.add_sub_cancel]
  rw [e1, List.take_append, List.take_of_length_le (by simp; omega), List.take_append, List.take_of_length_le (by rw [beN_len]; simp; omega)]
  have e2 : szOf D.length - (D ++ 128 :: List.replicate (szOf D.length - 8 - D.length - 1) 0).length - (beN 8 (n * 8 % 18446744073709551616)).length = 0 := by
    rw [beN_len]; simp; omega
  rw [e2, List.take_zero, List.append_nil, padN]
  have e3 : szOf D.length - 8 - D.length - 1 = if n % 64 < 56 then 55 - n % 64 else 119 - n % 64 := by
    rw [← hk]
    rcases hsz with ⟨h1, h2⟩ | ⟨h1, h2⟩
    · rw [if_pos h2, h1]; omega
    · rw [if_neg h2, h1]; omega
  rw [e3]
  simp
theorem endE_lt {D : List Nat} {n : Nat} (h : ∀ d ∈ D, d < 256) (hk : D.length < 64) : ∀ d ∈ endE D n, d < 256 := by
  have hsz : szOf D.length ≤ 128 ∧ 64 ≤ szOf D.length := by unfold szOf; split <;> omega
  intro d hd
  unfold endE at hd
  rw [setsE_eq _ _ _ _ (by omega) (by simp; omega)] at hd
  have base : ∀ d ∈ D ++ 128 :: List.replicate (127 - D.length) 0, d < 256 := by
    intro d hd
    rcases List.mem_append.1 hd with hd | hd
    · exact h d hd
    · rcases List.mem_cons.1 hd with rfl | hd
      · decide
      · rw [List.eq_of_mem_replicate hd]; decide
  rcases List.mem_append.1 hd with hd | hd
  · exact base d (List.mem_of_mem_take hd)
  · rcases List.mem_append.1 hd with hd | hd
    · exact beN_lt _ _ d hd
    · exact base d (List.mem_of_mem_drop hd)
/-- what the digest is, out of a Hasher's state -/
theorem took_sum {A S R : List Nat} {k : Nat} (h : Took A S R k) :
    (A ++ padN A.length).drop (64 * (A.length / 64)) = (endE (R.take k) A.length).take (szOf k) ∧ S = runB K0 H0 (A ++ padN A.length) (A.length / 64) ∧ (A ++ padN A.length).length = 64 * (A.length / 64) + szOf k := by
  have hkk := h.kk
  have hl := h.l
  have hD : (R.take k).length = k := by rw [List.length_take]; omega
  have hD' : (R.take k).length = A.length % 64 := by omega
  have e := endE_eq (n := A.length) hD'
  rw [hD] at e
  have hle : 64 * (A.length / 64) ≤ A.length := by omega
  refine ⟨?_, ?_, ?_⟩
  · rw [e, h.r, List.drop_append_of_le_length hle]
  · rw [runB_front _ _ _ hle]; exact h.s
  · rw [List.length_append, padN]
    simp only [List.length_cons, List.length_append, List.length_replicate, beN_len]
    unfold szOf
    rw [← hkk]
    split <;> omega
def outL (S : List Nat) : Nat → List Nat
  | 0 => List.replicate 32 0
  | i + 1 => ((((outL S i).set (4 * i) (S.getD i 0 / 16777216 % 256)).set (4 * i + 1) (S.getD i 0 / 65536 % 256)).set (4 * i + 2) (S.getD i 0 / 256 % 256)).set (4 * i + 3) (S.getD i 0 % 256)
theorem outL_len (S : List Nat) (i : Nat) : (outL S i).length = 32 := by
  induction i with
  | zero => simp [outL]
  | succ i ih => simp [outL, ih]
theorem outL_eq (a b c d e f g h : Nat) : outL [a, b, c, d, e, f, g, h] 8 = [a, b, c, d, e, f, g, h].flatMap bytes4 := by simp [outL, bytes4, List.replicate]
theorem bytes4_lt (x : Nat) : ∀ d ∈ bytes4 x, d < 256 := by
  intro d hd
  simp only [bytes4, List.mem_cons, List.not_mem_nil, or_false] at hd
  omega
theorem sha_lt (b : List Nat) : ∀ d ∈ sha b, d < 256 := by
  intro d hd
  simp only [sha, hashS, List.mem_flatMap] at hd
  obtain ⟨x, _, hx⟩ := hd
  exact bytes4_lt x d hx
theorem sha_len (b : List Nat) : (sha b).length = 32 := by
  have h := runB_len (K := K0) (S := H0) (bs := b ++ padN b.length) rfl ((b ++ padN b.length).length / 64)
  unfold sha hashS
  generalize runB K0 H0 (b ++ padN b.length) ((b ++ padN b.length).length / 64) = L at *
  rw [List.length_flatMap]
  have : L.map (fun a => (bytes4 a).length) = L.map (fun _ => 4) := rfl
  rw [this, List.map_const', List.sum_replicate_nat, h]
theorem dig8 (x j : Nat) : (x : Int) / 2 ^ (8 * j) % 256 = ((x / 256 ^ j % 256 : Nat) : Int) := by
  rw [show (256 : Nat) ^ j = 2 ^ (8 * j) from by rw [Nat.pow_mul], Int.natCast_emod, Int.natCast_ediv, Int.natCast_pow]; rfl
/-- a piece of a row of the call's own -/
theorem sl_sub {k : IntKind} {e : TypeId} {w : World} {B g n cap p m c : Nat} {os : List Nat} (h : w.ownsRow B e 1 (.slice (some ⟨g, 0, none⟩) n cap) n (nums k os)) (hp : p + m ≤ n) (hm : m ≤ c) (hc : c ≤ maxLen) : Sl k w (some ⟨g, p, none⟩) m c ((os.drop p).take m) := by
  have hl : os.length = n := by have := h.1; simpa using this
  refine ⟨by simp; omega, hm, hc, (fun e => by cases e), g, p, fun _ => rfl, fun j u hu => ?_⟩
  have hj : j < m := by
    have := (List.getElem?_eq_some_iff.1 hu).1
    simp at this
    omega
  rw [nums, List.map_take, List.map_drop, List.getElem?_take, if_pos hj, List.getElem?_drop] at hu
  rw [h.cellAt (p + j) (by omega)]
  exact hu
/-- the next block of the end -/
theorem end_block {P E : List Nat} {q sz p j : Nat} (h : P.drop (64 * q) = E.take sz) (hp : p = 64 * j) (hs : p + 64 ≤ sz) : (P.drop (64 * (q + j))).take 64 = (E.drop p).take 64 := by
  have e : P.drop (64 * (q + j)) = (E.take sz).drop p := by
    rw [← h, List.drop_drop, hp, Nat.mul_add]
  rw [e, List.drop_take, List.take_take, Nat.min_eq_left (by omega)]
end Go.Proofs.YtnophelfpoldfaaGreatDoor
