/- The walk of tlv.Encode. -/
import Derived.Test.YtnbmpgballopeaaDoorZEncP
namespace Go.Proofs.YtnbmpgballopeaaDoor
open Go.RowKit
def EncRes (w : World) (rs : List Pr) (e : Ending) (w' : World) : Prop := ∃ v, e = .returned (.tuple #[v, .int .i64 ((encE rs : Nat) : Int)]) ∧ SlV .u8 w' v (if encE rs = 0 then encAll rs else []) ∧ Below w.heap.size w w'
theorem EncRes.bad {w w' : World} {rs : List Pr} {z : Int} (h : ((encE rs : Nat) : Int) = z) (h0 : z ≠ 0) (hb : Below w.heap.size w w') : EncRes w rs (.returned (.tuple #[.slice none 0 0, .int .i64 z])) w' := by
 refine ⟨_, by rw [h], ?_, hb⟩
 rw [if_neg (by omega)]
 exact (Sl.nilS .u8 _ (Nat.zero_le _) (fun _ => rfl)).toV
theorem encAll_snoc (rs : List Pr) (r : Pr) : encAll (rs ++ [r]) = encAll rs ++ size r.1 ++ size r.2.length ++ r.2 := by simp [encAll, encR]
theorem map_pr {rs : List LR} {k : Nat} {r : LR} (h : rs[k]? = some r) : (rs.map LR.pr)[k]? = some (r.t, r.v) := by rw [List.getElem?_map, h]; rfl
set_option maxRecDepth 100000 in
set_option maxHeartbeats 2000000 in
theorem enc_walk (a : Option Addr) (n cap : Nat) (rs : List LR) (w : World) (h : Recs w a n cap rs) :
  Calls Tryd.prog 35 #[.slice a n cap] w (EncRes w (rs.map LR.pr)) := by
 have HL := hid h.2.1
 by_cases hn : n ≤ 256
 ·have hE := hid (show encE (rs.map LR.pr) = encErr none (rs.map LR.pr) by unfold encE; rw [if_neg (by rw [List.length_map, HL.out]; omega)])
  have t0 : decide ((n : Int) > 256) = false := by rw [decide_eq_false_iff_not]; omega
  go_enter Tryd.func35, Tryd.ntmps35
  go_wp2
  clear t0
  go_loopw [4, 12] (fun x4 i0 wr => ∃ (k : Nat) (v : Value), k ≤ n ∧ v = x4 ∧ i0 = .int .i64 k ∧ wr.ownsRow w.heap.size 5 1 v (encAll ((rs.map LR.pr).take k)).length (nums .u8 (encAll ((rs.map LR.pr).take k))) ∧ Below w.heap.size w wr ∧ Hid (encErr none (rs.map LR.pr) = encErr (prevT (rs.map LR.pr) k) ((rs.map LR.pr).drop k)) ∧ (encAll ((rs.map LR.pr).take k)).length ≤ k * 65554) (fun _ i0 _ => n - (intOf i0).toNat)
  case atStart => exact ⟨0, _, by omega, rfl, rfl, ⟨rfl, .inl ⟨rfl, rfl⟩⟩, Below.refl _ _, hid rfl, by simp [encAll]⟩
  case round =>
   obtain ⟨k, v, hk, rfl, rfl, hown, hb, he, hle⟩ := hrel
   by_cases hlt : k < n
   ·obtain ⟨r, hr⟩ := get_some HL.out hlt
    obtain ⟨b, off, rfl, c0, c1, gd⟩ := (h.below hb).cells hr
    have gd0 := h.2.2 r (List.mem_of_getElem? hr)
    have hp := map_pr hr
    have hs := encErr_step hp
    rw [← he.out] at hs
    have HS := hid hs
    have HP := hid hp
    have HI := hid h
    have HR := hid hr
    have hlen := gd.2.2.2
    have st0 : GrowSt w wr.heap.size r.t (.slice r.a r.v.length r.c) (wr.alloc (.cells #[.int .u64 (r.t : Int), .slice r.a r.v.length r.c] 75)) v (encAll ((rs.map LR.pr).take k)) := by
     have bb := (Below.refl wr.heap.size wr).alloc (Nat.le_refl _) (.cells #[.int .u64 (r.t : Int), .slice r.a r.v.length r.c] 75)
     refine ⟨own_below hown bb, hb.trans (bb.mono hb.size), BxR.new _ _ _ _, fun e => ?_, hb.size⟩
     have := (hown.lt _ e).2
     omega
    have A46 := hid gd0.2.1
    clear hs he hp gd gd0 hown
    obtain ⟨xs, hxs⟩ : ∃ xs, encAll ((rs.map LR.pr).take k) = xs := ⟨_, rfl⟩
    have HXS := hid hxs
    rw [hxs] at hle st0
    clear hxs
    have BB := hid st0.2.1
    by_cases h1 : ((prevT (rs.map LR.pr) k).any (fun q => decide (r.t ≤ q))) = true
    ·have F := hid (fun w' (hb : Below w.heap.size w w') => EncRes.bad (w := w) (w' := w') (rs := rs.map LR.pr) (z := 22) (by rw [show encE (rs.map LR.pr) = 22 by rw [hE.out, HS.out, if_pos h1]]; rfl) (by decide) hb)
     cases k with
     | zero => simp [prevT] at h1
     | succ j =>
      obtain ⟨q, hq⟩ := get_some HL.out (show j < n by omega)
      obtain ⟨b', off', hb', d0, _, gq⟩ := (h.below hb).cells hq
      simp only [Option.some.injEq, Addr.mk.injEq, and_true] at hb'
      obtain ⟨rfl, rfl⟩ := hb'
      have ej : (((j + 1 : Nat) : Int) - 1) = (j : Int) := by omega
      have tq : decide (r.t ≤ q.t) = true := by
       simp [prevT, map_pr hq] at h1
       rw [decide_eq_true_eq]; exact h1
      have tk : decide (0 < j + 1) = true := by simp
      have bb := (Below.refl wr.heap.size wr).alloc (Nat.le_refl _) (.cells #[.int .u64 (r.t : Int), .slice r.a r.v.length r.c] 75)
      have d1 := (bb.cell (World.block_lt_of_cell? wr _ d0)).trans d0
      obtain ⟨x0, x1⟩ := st0.2.2.1
      clear h1 hq gq d0 bb st0 HS HP HI A46 h hle
      go_wp2_with fail
      go_quiet (fail)
      go_wp2
      go_ret2
      exact F.out _ (below_drewN BB.out _)
    ·rw [if_neg h1] at HS
     by_cases h2 : 65536 < r.v.length
     ·have F := hid (fun w' (hb : Below w.heap.size w w') => EncRes.bad (w := w) (w' := w') (rs := rs.map LR.pr) (z := 3) (by rw [show encE (rs.map LR.pr) = 3 by rw [hE.out, HS.out, if_pos h2]]; rfl) (by decide) hb)
      have tl : decide ((r.v.length : Int) > 65536) = true := by rw [decide_eq_true_eq]; omega
      have bb := (Below.refl wr.heap.size wr).alloc (Nat.le_refl _) (.cells #[.int .u64 (r.t : Int), .slice r.a r.v.length r.c] 75)
      obtain ⟨x0, x1⟩ := st0.2.2.1
      cases k with
      | zero =>
       simp only [Nat.zero_mul, Nat.add_zero] at c0 c1
       clear h1 h2 bb st0 HS HP HI A46 h hle
       go_wp2_with fail
       go_quiet (fail)
       go_wp2
       go_ret2
       exact F.out _ (below_drewN BB.out _)
      | succ j =>
       obtain ⟨q, hq⟩ := get_some HL.out (show j < n by omega)
       obtain ⟨b', off', hb', d0, _, gq⟩ := (h.below hb).cells hq
       simp only [Option.some.injEq, Addr.mk.injEq, and_true] at hb'
       obtain ⟨rfl, rfl⟩ := hb'
       have ej : (((j + 1 : Nat) : Int) - 1) = (j : Int) := by omega
       have tq : decide (r.t ≤ q.t) = false := by
        simp [prevT, map_pr hq] at h1
        rw [decide_eq_false_iff_not]; omega
       have tk : decide (0 < j + 1) = true := by simp
       have d1 := (bb.cell (World.block_lt_of_cell? wr _ d0)).trans d0
       clear h1 h2 hq gq d0 bb st0 HS HP HI A46 h hle
       go_wp2_with fail
       go_quiet (fail)
       go_wp2
       go_ret2
       exact F.out _ (below_drewN BB.out _)
     ·have tl : decide ((r.v.length : Int) > 65536) = false := by rw [decide_eq_false_iff_not]; omega
      rw [if_neg h2] at HS
      have hrt := (HI.out.2.2 r (List.mem_of_getElem? (show rs[k]? = some r from HR.out))).1
      have C37 := fun wx => hid (size_walk r.t hrt wx)
      have C43 := fun wx => hid (size_walk r.v.length (by omega) wx)
      have HN := hid (show encAll ((rs.map LR.pr).take (k + 1)) = xs ++ size r.t ++ size r.v.length ++ r.v by rw [take_succ_some HP.out, encAll_snoc, HXS.out])
      have hwr : IntKind.u64.wrap (r.v.length : Int) = (r.v.length : Int) := by
       simp [IntKind.wrap, IntKind.signed, IntKind.bits]; omega
      have l1 := (size_len_bd r.t).2
      have l2 := (size_len_bd r.v.length).2
      generalize size r.t = y1 at *
      generalize size r.v.length = y2 at *
      have bb := (Below.refl wr.heap.size wr).alloc (Nat.le_refl _) (.cells #[.int .u64 (r.t : Int), .slice r.a r.v.length r.c] 75)
      obtain ⟨x0, x1⟩ := st0.2.2.1
      cases k with
      | zero =>
       simp only [Nat.zero_mul, Nat.add_zero] at c0 c1
       have ST := hid st0
       clear h1 bb HI h st0 HP hb
       go_wp2_with fail
       go_quiet (fail)
       go_wp2_with fail
       have st := ST.out.dN nq
       clear ST
       go_region_held3 (fun w' => w'.cell? ⟨wr.heap.size, 0, none⟩ = some (.int .u64 (r.t : Int)) ∧ w'.cell? ⟨wr.heap.size, 1, none⟩ = some (.slice r.a r.v.length r.c))
        (exact ⟨st.2.2.1.1, st.2.2.1.2⟩)
        (first
         | (go_at_call 54; (with_reducible refine (C37 _).out.mono ?_); rintro e wA hA; (first | (obtain ⟨a1, k1, rfl, stN, s37, kb⟩ := st.call hA) | (obtain ⟨a1, k1, rfl, stN, s37, kb⟩ := st.drew.call hA)); clear st hA kb; have st := stN; clear stN)
         | (go_at_call 54; (with_reducible refine (C43 _).out.mono ?_); rintro e wB hB; (first | (obtain ⟨a2, k2, rfl, stN, s43, kb⟩ := st.call hB) | (obtain ⟨a2, k2, rfl, stN, s43, kb⟩ := st.drew.call hB)); have s37N := s37.below kb; clear st hB kb s37; have st := stN; have s37 := s37N; clear stN s37N)
         | (refine step_cat rfl _ _ 22 rfl tyBs w.heap.size st.1 rfl rfl (s37).1 (nums_oneCell _ _) (by (try rw [List.length_append]); (try rw [List.length_append]); omega) (by unfold maxLen; (try rw [List.length_append]); (try rw [List.length_append]); omega) st.2.1.size ?_; intro vN wN oN gN fN; obtain ⟨stN, kp⟩ := st.grew (s37).1.len oN gN fN; (try (have s37N := kp _ _ _ _ s37; clear s37; have s37 := s37N; clear s37N)); (try (have s43N := kp _ _ _ _ s43; clear s43; have s43 := s43N; clear s43N)); clear st oN gN fN kp; have st := stN; clear stN)
         | (refine step_cat rfl _ _ 22 rfl tyBs w.heap.size st.1 rfl rfl (s43).1 (nums_oneCell _ _) (by (try rw [List.length_append]); (try rw [List.length_append]); omega) (by unfold maxLen; (try rw [List.length_append]); (try rw [List.length_append]); omega) st.2.1.size ?_; intro vN wN oN gN fN; obtain ⟨stN, kp⟩ := st.grew (s43).1.len oN gN fN; (try (have s37N := kp _ _ _ _ s37; clear s37; have s37 := s37N; clear s37N)); (try (have s43N := kp _ _ _ _ s43; clear s43; have s43 := s43N; clear s43N)); clear st oN gN fN kp; have st := stN; clear stN)
         | (refine step_cat rfl _ _ 22 rfl tyBs w.heap.size st.1 rfl rfl (st.arg A46.out).1 (nums_oneCell _ _) (by (try rw [List.length_append]); (try rw [List.length_append]); omega) (by unfold maxLen; (try rw [List.length_append]); (try rw [List.length_append]); omega) st.2.1.size ?_; intro vN wN oN gN fN; obtain ⟨stN, kp⟩ := st.grew (st.arg A46.out).1.len oN gN fN; (try (have s37N := kp _ _ _ _ s37; clear s37; have s37 := s37N; clear s37N)); (try (have s43N := kp _ _ _ _ s43; clear s43; have s43 := s43N; clear s43N)); clear st oN gN fN kp; have st := stN; clear stN))
       go_wp2
       go_roundw
       case rel => exact ⟨0 + 1, _, by omega, rfl, by go_num, by rw [HN.out]; exact st.1, st.2.1, HS, by rw [HN.out]; (repeat rw [List.length_append]); omega⟩
       case measure => simp [intOf]; omega
      | succ j =>
       obtain ⟨q, hq⟩ := get_some HL.out (show j < n by omega)
       obtain ⟨b', off', hb', d0, _, gq⟩ := (h.below hb).cells hq
       simp only [Option.some.injEq, Addr.mk.injEq, and_true] at hb'
       obtain ⟨rfl, rfl⟩ := hb'
       have ej : (((j + 1 : Nat) : Int) - 1) = (j : Int) := by omega
       have tq : decide (r.t ≤ q.t) = false := by
        simp [prevT, map_pr hq] at h1
        rw [decide_eq_false_iff_not]; omega
       have tk : decide (0 < j + 1) = true := by simp
       have d1 := (bb.cell (World.block_lt_of_cell? wr _ d0)).trans d0
       have ST := hid st0
       clear h1 hq gq d0 bb HI h st0 HP hb
       go_wp2_with fail
       go_quiet (fail)
       go_wp2_with fail
       have st := ST.out.dN nq
       clear ST
       go_region_held3 (fun w' => w'.cell? ⟨wr.heap.size, 0, none⟩ = some (.int .u64 (r.t : Int)) ∧ w'.cell? ⟨wr.heap.size, 1, none⟩ = some (.slice r.a r.v.length r.c))
        (exact ⟨st.2.2.1.1, st.2.2.1.2⟩)
        (first
         | (go_at_call 54; (with_reducible refine (C37 _).out.mono ?_); rintro e wA hA; (first | (obtain ⟨a1, k1, rfl, stN, s37, kb⟩ := st.call hA) | (obtain ⟨a1, k1, rfl, stN, s37, kb⟩ := st.drew.call hA)); clear st hA kb; have st := stN; clear stN)
         | (go_at_call 54; (with_reducible refine (C43 _).out.mono ?_); rintro e wB hB; (first | (obtain ⟨a2, k2, rfl, stN, s43, kb⟩ := st.call hB) | (obtain ⟨a2, k2, rfl, stN, s43, kb⟩ := st.drew.call hB)); have s37N := s37.below kb; clear st hB kb s37; have st := stN; have s37 := s37N; clear stN s37N)
         | (refine step_cat rfl _ _ 22 rfl tyBs w.heap.size st.1 rfl rfl (s37).1 (nums_oneCell _ _) (by (try rw [List.length_append]); (try rw [List.length_append]); omega) (by unfold maxLen; (try rw [List.length_append]); (try rw [List.length_append]); omega) st.2.1.size ?_; intro vN wN oN gN fN; obtain ⟨stN, kp⟩ := st.grew (s37).1.len oN gN fN; (try (have s37N := kp _ _ _ _ s37; clear s37; have s37 := s37N; clear s37N)); (try (have s43N := kp _ _ _ _ s43; clear s43; have s43 := s43N; clear s43N)); clear st oN gN fN kp; have st := stN; clear stN)
         | (refine step_cat rfl _ _ 22 rfl tyBs w.heap.size st.1 rfl rfl (s43).1 (nums_oneCell _ _) (by (try rw [List.length_append]); (try rw [List.length_append]); omega) (by unfold maxLen; (try rw [List.length_append]); (try rw [List.length_append]); omega) st.2.1.size ?_; intro vN wN oN gN fN; obtain ⟨stN, kp⟩ := st.grew (s43).1.len oN gN fN; (try (have s37N := kp _ _ _ _ s37; clear s37; have s37 := s37N; clear s37N)); (try (have s43N := kp _ _ _ _ s43; clear s43; have s43 := s43N; clear s43N)); clear st oN gN fN kp; have st := stN; clear stN)
         | (refine step_cat rfl _ _ 22 rfl tyBs w.heap.size st.1 rfl rfl (st.arg A46.out).1 (nums_oneCell _ _) (by (try rw [List.length_append]); (try rw [List.length_append]); omega) (by unfold maxLen; (try rw [List.length_append]); (try rw [List.length_append]); omega) st.2.1.size ?_; intro vN wN oN gN fN; obtain ⟨stN, kp⟩ := st.grew (st.arg A46.out).1.len oN gN fN; (try (have s37N := kp _ _ _ _ s37; clear s37; have s37 := s37N; clear s37N)); (try (have s43N := kp _ _ _ _ s43; clear s43; have s43 := s43N; clear s43N)); clear st oN gN fN kp; have st := stN; clear stN))
       go_wp2
       go_roundw
       case rel => exact ⟨j + 1 + 1, _, by omega, rfl, by go_num, by rw [HN.out]; exact st.1, st.2.1, HS, by rw [HN.out]; (repeat rw [List.length_append]); omega⟩
       case measure => simp [intOf]; omega
   ·obtain rfl : k = n := by omega
    have e0 : (rs.map LR.pr).drop k = [] := List.drop_eq_nil_of_le (by rw [List.length_map, HL.out]; exact Nat.le_refl _)
    have e1 : (rs.map LR.pr).take k = rs.map LR.pr := List.take_of_length_le (by rw [List.length_map, HL.out]; exact Nat.le_refl _)
    rw [e1] at hown
    rw [e0] at he
    have E0 := hid (show encE (rs.map LR.pr) = 0 by rw [hE.out, he.out]; rfl)
    have HO := hid (SlV.of_owns hown)
    clear hown he hle e0 e1 h
    go_wp2
    go_ret2
    exact ⟨_, by rw [E0.out]; rfl, by rw [if_pos E0.out]; exact HO.out, hb⟩
 ·have t0 : decide ((n : Int) > 256) = true := by rw [decide_eq_true_eq]; omega
  have F := hid (EncRes.bad (w := w) (w' := w) (rs := rs.map LR.pr) (z := 4) (by unfold encE; rw [if_pos (by rw [List.length_map, HL.out]; omega)]; rfl) (by decide) (Below.refl _ _))
  go_enter Tryd.func35, Tryd.ntmps35
  go_wp2
  go_ret2
  exact F.out
end Go.Proofs.YtnbmpgballopeaaDoor
