/- The walk of tlv.Encode. -/
import Derived.Test.YtnophelfpoldfaaGreatDoorGCat
import Derived.Test.YtnophelfpoldfaaGreatDoorGStp
import Derived.Test.YtnophelfpoldfaaGreatDoorGSts
namespace Go.Proofs.YtnophelfpoldfaaGreatDoor
open Go.RowKit

def EncRes (w : World) (rs : List Pr) (e : Ending) (w' : World) : Prop := ∃ v, e = .returned (.tuple #[v, .int .i64 ((encE rs : Nat) : Int)]) ∧ SlV .u8 w' v (if encE rs = 0 then encAll rs else []) ∧ Below w.heap.size w w'
theorem EncRes.bad {w w' : World} {rs : List Pr} {z : Int} (h : ((encE rs : Nat) : Int) = z) (h0 : z ≠ 0) (hb : Below w.heap.size w w') : EncRes w rs (.returned (.tuple #[.slice none 0 0, .int .i64 z])) w' := by
  refine ⟨_, by rw [h], ?_, hb⟩
  rw [if_neg (by omega)]
  exact (Sl.nilS .u8 _ (Nat.zero_le _) (fun _ => rfl)).toV
/-- .. and the bytes are the call's own -/
def EncRes2 (w : World) (rs : List Pr) (e : Ending) (w' : World) : Prop := ∃ v, e = .returned (.tuple #[v, .int .i64 ((encE rs : Nat) : Int)]) ∧ w'.ownsRow w.heap.size 5 1 v (if encE rs = 0 then encAll rs else []).length (nums .u8 (if encE rs = 0 then encAll rs else [])) ∧ Below w.heap.size w w'
theorem EncRes2.one {w w' : World} {rs : List Pr} {e : Ending} (h : EncRes2 w rs e w') : EncRes w rs e w' := by
  obtain ⟨v, h1, h2, h3⟩ := h
  exact ⟨v, h1, SlV.of_owns h2, h3⟩
theorem EncRes2.bad {w w' : World} {rs : List Pr} {z : Int} (h : ((encE rs : Nat) : Int) = z) (h0 : z ≠ 0) (hb : Below w.heap.size w w') : EncRes2 w rs (.returned (.tuple #[.slice none 0 0, .int .i64 z])) w' := by
  refine ⟨_, by rw [h], ?_, hb⟩
  rw [if_neg (by omega)]
  exact ⟨rfl, .inl ⟨rfl, rfl⟩⟩
theorem encAll_snoc (rs : List Pr) (r : Pr) : encAll (rs ++ [r]) = encAll rs ++ size r.1 ++ size r.2.length ++ r.2 := by simp [encAll, encR]
theorem map_pr {rs : List LR} {k : Nat} {r : LR} (h : rs[k]? = some r) : (rs.map LR.pr)[k]? = some (r.t, r.v) := by rw [List.getElem?_map, h]; rfl

set_option maxRecDepth 100000 in
set_option maxHeartbeats 2000000 in
theorem enc_walk2 (a : Option Addr) (n cap : Nat) (rs : List LR) (w : World) (h : Recs w a n cap rs) :
    Calls Tryz.prog 48 #[.slice a n cap] w (EncRes2 w (rs.map LR.pr)) := by
  have HL := hid h.2.1
  by_cases hn : n ≤ 256
  · have hE := hid (show encE (rs.map LR.pr) = encErr none (rs.map LR.pr) by unfold encE; rw [if_neg (by rw [List.length_map, HL.out]; omega)])
    have t0 : decide ((n : Int) > 256) = false := by rw [decide_eq_false_iff_not]; omega
    go_enter Tryz.func48, Tryz.ntmps48
    go_wp2
    clear t0
    go_loopw [4, 12] (fun x4 i0 wr => ∃ (k : Nat) (v : Value), k ≤ n ∧ v = x4 ∧ i0 = .int .i64 k ∧ wr.ownsRow w.heap.size 5 1 v (encAll ((rs.map LR.pr).take k)).length (nums .u8 (encAll ((rs.map LR.pr).take k))) ∧ Below w.heap.size w wr ∧ Hid (encErr none (rs.map LR.pr) = encErr (prevT (rs.map LR.pr) k) ((rs.map LR.pr).drop k)) ∧ (encAll ((rs.map LR.pr).take k)).length ≤ k * 65554) (fun _ i0 _ => n - (intOf i0).toNat)
    case atStart => exact ⟨0, _, by omega, rfl, rfl, ⟨rfl, .inl ⟨rfl, rfl⟩⟩, Below.refl _ _, hid rfl, by simp [encAll]⟩
    case round =>
      obtain ⟨k, v, hk, rfl, rfl, hown, hb, he, hle⟩ := hrel
      by_cases hlt : k < n
      · obtain ⟨r, hr⟩ := get_some HL.out hlt
        obtain ⟨b, off, rfl, c0, c1, gd⟩ := (h.below hb).cells hr
        have gd0 := h.2.2 r (List.mem_of_getElem? hr)
        have hp := map_pr hr
        have hs := encErr_step hp
        rw [← he.out] at hs
        have HS := hid hs
        have HP := hid hp
        have HI := hid h
        have HR := hid hr
        have hlen := gd.2.2.2
        have st0 : GrowSt w wr.heap.size r.t (.slice r.a r.v.length r.c) (wr.alloc (.cells #[.int .u64 (r.t : Int), .slice r.a r.v.length r.c] 103)) v (encAll ((rs.map LR.pr).take k)) := by
          have bb := (Below.refl wr.heap.size wr).alloc (Nat.le_refl _) (.cells #[.int .u64 (r.t : Int), .slice r.a r.v.length r.c] 103)
          refine ⟨own_below hown bb, hb.trans (bb.mono hb.size), BxR.new _ _ _ _, fun e => ?_, hb.size⟩
          have := (hown.lt _ e).2
          omega
        have A46 := hid gd0.2.1
        clear hs he hp gd gd0 hown
        obtain ⟨xs, hxs⟩ : ∃ xs, encAll ((rs.map LR.pr).take k) = xs := ⟨_, rfl⟩
        have HXS := hid hxs
        rw [hxs] at hle st0
        clear hxs
        have BB := hid st0.2.1
        -- what the tests of this round see
        by_cases h1 : ((prevT (rs.map LR.pr) k).any (fun q => decide (r.t ≤ q))) = true
        · have F := hid (fun w' (hb : Below w.heap.size w w') => EncRes2.bad (w := w) (w' := w') (rs := rs.map LR.pr) (z := 22) (by rw [show encE (rs.map LR.pr) = 22 by rw [hE.out, HS.out, if_pos h1]]; rfl) (by decide) hb)
          cases k with
          | zero => simp [prevT] at h1
          | succ j =>
            obtain ⟨q, hq⟩ := get_some HL.out (show j < n by omega)
            obtain ⟨b', off', hb', d0, _, gq⟩ := (h.below hb).cells hq
            simp only [Option.some.injEq, Addr.mk.injEq, and_true] at hb'
            obtain ⟨rfl, rfl⟩ := hb'
            have ej : (((j + 1 : Nat) : Int) - 1) = (j : Int) := by omega
            have tq : decide (r.t ≤ q.t) = true := by
              simp [prevT, map_pr hq] at h1
              rw [decide_eq_true_eq]; exact h1
            have tk : decide (0 < j + 1) = true := by simp
            have bb := (Below.refl wr.heap.size wr).alloc (Nat.le_refl _) (.cells #[.int .u64 (r.t : Int), .slice r.a r.v.length r.c] 103)
            have d1 := (bb.cell (World.block_lt_of_cell? wr _ d0)).trans d0
            obtain ⟨x0, x1⟩ := st0.2.2.1
            clear h1 hq gq d0 bb st0 HS HP HI A46 h hle
            go_wp2_with fail
            go_quiet (fail)
            go_wp2
            go_ret2
            exact F.out _ (below_drewN BB.out _)
        · rw [if_neg h1] at HS
          by_cases h2 : 65536 < r.v.length
          · have F := hid (fun w' (hb : Below w.heap.size w w') => EncRes2.bad (w := w) (w' := w') (rs := rs.map LR.pr) (z := 3) (by rw [show encE (rs.map LR.pr) = 3 by rw [hE.out, HS.out, if_pos h2]]; rfl) (by decide) hb)
            have tl : decide ((r.v.length : Int) > 65536) = true := by rw [decide_eq_true_eq]; omega
            have bb := (Below.refl wr.heap.size wr).alloc (Nat.le_refl _) (.cells #[.int .u64 (r.t : Int), .slice r.a r.v.length r.c] 103)
            obtain ⟨x0, x1⟩ := st0.2.2.1
            cases k with
            | zero =>
              simp only [Nat.zero_mul, Nat.add_zero] at c0 c1
              clear h1 h2 bb st0 HS HP HI A46 h hle
              go_wp2_with fail
              go_quiet (fail)
              go_wp2
              go_ret2
              exact F.out _ (below_drewN BB.out _)
            | succ j =>
              obtain ⟨q, hq⟩ := get_some HL.out (show j < n by omega)
              obtain ⟨b', off', hb', d0, _, gq⟩ := (h.below hb).cells hq
              simp only [Option.some.injEq, Addr.mk.injEq, and_true] at hb'
              obtain ⟨rfl, rfl⟩ := hb'
              have ej : (((j + 1 : Nat) : Int) - 1) = (j : Int) := by omega
              have tq : decide (r.t ≤ q.t) = false := by
                simp [prevT, map_pr hq] at h1
                rw [decide_eq_false_iff_not]; omega
              have tk : decide (0 < j + 1) = true := by simp
              have d1 := (bb.cell (World.block_lt_of_cell? wr _ d0)).trans d0
              clear h1 h2 hq gq d0 bb st0 HS HP HI A46 h hle
              go_wp2_with fail
              go_quiet (fail)
              go_wp2
              go_ret2
              exact F.out _ (below_drewN BB.out _)
          · have tl : decide ((r.v.length : Int) > 65536) = false := by rw [decide_eq_false_iff_not]; omega
            rw [if_neg h2] at HS
            have hrt := (HI.out.2.2 r (List.mem_of_getElem? (show rs[k]? = some r from HR.out))).1
            have C37 := fun wx => hid (size_walk r.t hrt wx)
            have C43 := fun wx => hid (size_walk r.v.length (by omega) wx)
            have HN := hid (show encAll ((rs.map LR.pr).take (k + 1)) = xs ++ size r.t ++ size r.v.length ++ r.v by rw [take_succ_some HP.out, encAll_snoc, HXS.out])
            have hwr : IntKind.u64.wrap (r.v.length : Int) = (r.v.length : Int) := by
              simp [IntKind.wrap, IntKind.signed, IntKind.bits]; omega
            have l1 := (size_len_bd r.t).2
            have l2 := (size_len_bd r.v.length).2
            generalize size r.t = y1 at *
            generalize size r.v.length = y2 at *
            have bb := (Below.refl wr.heap.size wr).alloc (Nat.le_refl _) (.cells #[.int .u64 (r.t : Int), .slice r.a r.v.length r.c] 103)
            obtain ⟨x0, x1⟩ := st0.2.2.1
            cases k with
            | zero =>
              simp only [Nat.zero_mul, Nat.add_zero] at c0 c1
              have ST := hid st0
              clear h1 bb HI h st0 HP hb
              go_wp2_with fail
              go_quiet (fail)
              go_wp2_with fail
              have st := ST.out.dN nq
              clear ST
              go_region_held3 (fun w' => w'.cell? ⟨wr.heap.size, 0, none⟩ = some (.int .u64 (r.t : Int)) ∧ w'.cell? ⟨wr.heap.size, 1, none⟩ = some (.slice r.a r.v.length r.c))
                (exact ⟨st.2.2.1.1, st.2.2.1.2⟩)
                (first
                  | (go_at_call 67; (with_reducible refine (C37 _).out.mono ?_); rintro e wA hA; (first | (obtain ⟨a1, k1, rfl, stN, s37, kb⟩ := st.call hA) | (obtain ⟨a1, k1, rfl, stN, s37, kb⟩ := st.drew.call hA)); clear st hA kb; have st := stN; clear stN)
                  | (go_at_call 67; (with_reducible refine (C43 _).out.mono ?_); rintro e wB hB; (first | (obtain ⟨a2, k2, rfl, stN, s43, kb⟩ := st.call hB) | (obtain ⟨a2, k2, rfl, stN, s43, kb⟩ := st.drew.call hB)); have s37N := s37.below kb; clear st hB kb s37; have st := stN; have s37 := s37N; clear stN s37N)
                  | (refine step_cat rfl _ _ 22 rfl tyBs w.heap.size st.1 rfl rfl (s37).1 (nums_oneCell _ _) (by (try rw [List.length_append]); (try rw [List.length_append]); omega) (by unfold maxLen; (try rw [List.length_append]); (try rw [List.length_append]); omega) st.2.1.size ?_; intro vN wN oN gN fN; obtain ⟨stN, kp⟩ := st.grew (s37).1.len oN gN fN; (try (have s37N := kp _ _ _ _ s37; clear s37; have s37 := s37N; clear s37N)); (try (have s43N := kp _ _ _ _ s43; clear s43; have s43 := s43N; clear s43N)); clear st oN gN fN kp; have st := stN; clear stN)
                  | (refine step_cat rfl _ _ 22 rfl tyBs w.heap.size st.1 rfl rfl (s43).1 (nums_oneCell _ _) (by (try rw [List.length_append]); (try rw [List.length_append]); omega) (by unfold maxLen; (try rw [List.length_append]); (try rw [List.length_append]); omega) st.2.1.size ?_; intro vN wN oN gN fN; obtain ⟨stN, kp⟩ := st.grew (s43).1.len oN gN fN; (try (have s37N := kp _ _ _ _ s37; clear s37; have s37 := s37N; clear s37N)); (try (have s43N := kp _ _ _ _ s43; clear s43; have s43 := s43N; clear s43N)); clear st oN gN fN kp; have st := stN; clear stN)
                  | (refine step_cat rfl _ _ 22 rfl tyBs w.heap.size st.1 rfl rfl (st.arg A46.out).1 (nums_oneCell _ _) (by (try rw [List.length_append]); (try rw [List.length_append]); omega) (by unfold maxLen; (try rw [List.length_append]); (try rw [List.length_append]); omega) st.2.1.size ?_; intro vN wN oN gN fN; obtain ⟨stN, kp⟩ := st.grew (st.arg A46.out).1.len oN gN fN; (try (have s37N := kp _ _ _ _ s37; clear s37; have s37 := s37N; clear s37N)); (try (have s43N := kp _ _ _ _ s43; clear s43; have s43 := s43N; clear s43N)); clear st oN gN fN kp; have st := stN; clear stN))
              go_wp2
              go_roundw
              case rel => exact ⟨0 + 1, _, by omega, rfl, by go_num, by rw [HN.out]; exact st.1, st.2.1, HS, by rw [HN.out]; (repeat rw [List.length_append]); omega⟩
              case measure => simp [intOf]; omega
            | succ j =>
              obtain ⟨q, hq⟩ := get_some HL.out (show j < n by omega)
              obtain ⟨b', off', hb', d0, _, gq⟩ := (h.below hb).cells hq
              simp only [Option.some.injEq, Addr.mk.injEq, and_true] at hb'
              obtain ⟨rfl, rfl⟩ := hb'
              have ej : (((j + 1 : Nat) : Int) - 1) = (j : Int) := by omega
              have tq : decide (r.t ≤ q.t) = false := by
                simp [prevT, map_pr hq] at h1
                rw [decide_eq_false_iff_not]; omega
              have tk : decide (0 < j + 1) = true := by simp
              have d1 := (bb.cell (World.block_lt_of_cell? wr _ d0)).trans d0
              have ST := hid st0
              clear h1 hq gq d0 bb HI h st0 HP hb
              go_wp2_with fail
              go_quiet (fail)
              go_wp2_with fail
              have st := ST.out.dN nq
              clear ST
              go_region_held3 (fun w' => w'.cell? ⟨wr.heap.size, 0, none⟩ = some (.int .u64 (r.t : Int)) ∧ w'.cell? ⟨wr.heap.size, 1, none⟩ = some (.slice r.a r.v.length r.c))
                (exact ⟨st.2.2.1.1, st.2.2.1.2⟩)
                (first
                  | (go_at_call 67; (with_reducible refine (C37 _).out.mono ?_); rintro e wA hA; (first | (obtain ⟨a1, k1, rfl, stN, s37, kb⟩ := st.call hA) | (obtain ⟨a1, k1, rfl, stN, s37, kb⟩ := st.drew.call hA)); clear st hA kb; have st := stN; clear stN)
                  | (go_at_call 67; (with_reducible refine (C43 _).out.mono ?_); rintro e wB hB; (first | (obtain ⟨a2, k2, rfl, stN, s43, kb⟩ := st.call hB) | (obtain ⟨a2, k2, rfl, stN, s43, kb⟩ := st.drew.call hB)); have s37N := s37.below kb; clear st hB kb s37; have st := stN; have s37 := s37N; clear stN s37N)
                  | (refine step_cat rfl _ _ 22 rfl tyBs w.heap.size st.1 rfl rfl (s37).1 (nums_oneCell _ _) (by (try rw [List.length_append]); (try rw [List.length_append]); omega) (by unfold maxLen; (try rw [List.length_append]); (try rw [List.length_append]); omega) st.2.1.size ?_; intro vN wN oN gN fN; obtain ⟨stN, kp⟩ := st.grew (s37).1.len oN gN fN; (try (have s37N := kp _ _ _ _ s37; clear s37; have s37 := s37N; clear s37N)); (try (have s43N := kp _ _ _ _ s43; clear s43; have s43 := s43N; clear s43N)); clear st oN gN fN kp; have st := stN; clear stN)
                  | (refine step_cat rfl _ _ 22 rfl tyBs w.heap.size st.1 rfl rfl (s43).1 (nums_oneCell _ _) (by (try rw [List.length_append]); (try rw [List.length_append]); omega) (by unfold maxLen; (try rw [List.length_append]); (try rw [List.length_append]); omega) st.2.1.size ?_; intro vN wN oN gN fN; obtain ⟨stN, kp⟩ := st.grew (s43).1.len oN gN fN; (try (have s37N := kp _ _ _ _ s37; clear s37; have s37 := s37N; clear s37N)); (try (have s43N := kp _ _ _ _ s43; clear s43; have s43 := s43N; clear s43N)); clear st oN gN fN kp; have st := stN; clear stN)
                  | (refine step_cat rfl _ _ 22 rfl tyBs w.heap.size st.1 rfl rfl (st.arg A46.out).1 (nums_oneCell _ _) (by (try rw [List.length_append]); (try rw [List.length_append]); omega) (by unfold maxLen; (try rw [List.length_append]); (try rw [List.length_append]); omega) st.2.1.size ?_; intro vN wN oN gN fN; obtain ⟨stN, kp⟩ := st.grew (st.arg A46.out).1.len oN gN fN; (try (have s37N := kp _ _ _ _ s37; clear s37; have s37 := s37N; clear s37N)); (try (have s43N := kp _ _ _ _ s43; clear s43; have s43 := s43N; clear s43N)); clear st oN gN fN kp; have st := stN; clear stN))
              go_wp2
              go_roundw
              case rel => exact ⟨j + 1 + 1, _, by omega, rfl, by go_num, by rw [HN.out]; exact st.1, st.2.1, HS, by rw [HN.out]; (repeat rw [List.length_append]); omega⟩
              case measure => simp [intOf]; omega
      · obtain rfl : k = n := by omega
        have e0 : (rs.map LR.pr).drop k = [] := List.drop_eq_nil_of_le (by rw [List.length_map, HL.out]; exact Nat.le_refl _)
        have e1 : (rs.map LR.pr).take k = rs.map LR.pr := List.take_of_length_le (by rw [List.length_map, HL.out]; exact Nat.le_refl _)
        rw [e1] at hown
        rw [e0] at he
        have E0 := hid (show encE (rs.map LR.pr) = 0 by rw [hE.out, he.out]; rfl)
        have HO := hid hown
        clear hown he hle e0 e1 h
        go_wp2
        go_ret2
        exact ⟨_, by rw [E0.out]; rfl, by rw [if_pos E0.out]; exact HO.out, hb⟩
  · have t0 : decide ((n : Int) > 256) = true := by rw [decide_eq_true_eq]; omega
    have F := hid (EncRes2.bad (w := w) (w' := w) (rs := rs.map LR.pr) (z := 4) (by unfold encE; rw [if_pos (by rw [List.length_map, HL.out]; omega)]; rfl) (by decide) (Below.refl _ _))
    go_enter Tryz.func48, Tryz.ntmps48
    go_wp2
    go_ret2
    exact F.out
theorem enc_walk (a : Option Addr) (n cap : Nat) (rs : List LR) (w : World) (h : Recs w a n cap rs) :
    Calls Tryz.prog 48 #[.slice a n cap] w (EncRes w (rs.map LR.pr)) := (enc_walk2 a n cap rs w h).mono fun _ _ h => h.one
end Go.Proofs.YtnophelfpoldfaaGreatDoor

/- The store's encode. -/
namespace Go.Proofs.YtnophelfpoldfaaGreatDoor
open Go.RowKit

/-- 'append(s, x...)', x a literal of m elements -/
theorem wpList_pushKm {P : Program} {ops : Array Oper} {rest : List Oper} {o : Oper} {a : Act} {Q : Exit → Act → World → Prop} {w : World} (hgd : o.guard = none) (s x : Operand) (t : TypeId)
    (ho : o.op = .call { callee := .builtin .append, args := #[s, x], argTypes := #[t, t] })
    {e : TypeId} {size bytes : Nat} {z : Value} (ty : SliceTy P t e size bytes z) (B : Nat) {v : Value} {n : Nat} {xs : List Value} (hown : w.ownsRow B e size v n xs) (hs : a.eval s = v) (m : Nat)
    {us : Array Value} {et : TypeId} (hx : a.eval x = .slice (some ⟨w.heap.size, 0, none⟩) m m) (hl : us.size = m * size) (h1 : us.toList.all Value.oneCell' = true) (hn : n + m < 4294967296) (hby : bytes ≤ 16384) (hB : B ≤ w.heap.size)
    (h : ∀ v' w', w'.ownsRow B e size v' (n + m) (xs ++ us.toList) → Keep (fun i => v.ownBlock = some i) w w' → wpList P ops Q rest (a.put o.dst v') w') : wpList P ops Q (o :: rest) a (w.alloc (.cells us et)) := by
  obtain ⟨i, ht, hi, hz, hsz, hb⟩ := ty.ex
  refine wpList_append_own_at _ hgd s x t ho B e i z size bytes ht hi hz hsz hb ty.zs ty.pos v n xs hs (hown.alloc _) ⟨w.heap.size, 0, none⟩ m m us.toList hx (by simp [hl]) (cells_new w us et) (fun u hu => List.all_eq_true.1 h1 u hu) ?_ ?_ (by simp; omega) ?_
  · unfold maxLen; omega
  · have : (n + m) * bytes ≤ 4294967296 * 16384 := Nat.mul_le_mul (by omega) hby
    omega
  · intro v' w' h2 h3 _ _
    exact h v' w' h2 ((Keep.of (S := fun i => v.ownBlock = some i) ((Below.refl w.heap.size w).alloc (Nat.le_refl _) _)).trans (Keep.grown h3 (fun i hi => hi)))
/-- '[]byte{c}' -/
theorem wpList_lit8 {ops : Array Oper} {rest : List Oper} {o : Oper} {a : Act} {w : World} {Q : Exit → Act → World → Prop} (hg : o.guard = none) (x : Operand) (ho : o.op = .buildSlice 22 1 #[(0, x)]) {c : Int} (hx : a.eval x = .int .u8 c)
    (h : ∀ w', Hid (w'.heap[w.heap.size]? = some (.cells #[.int .u8 c] 5 (0, 0))) → Hid (Below w.heap.size w w') → wpList Tryz.prog ops Q rest (a.put o.dst (.slice (some ⟨w.heap.size, 0, none⟩) 1 1)) w') : wpList Tryz.prog ops Q (o :: rest) a w := by
  obtain ⟨i, ht, hi, hz, hsz, hb⟩ := tyBs.ex
  refine wpList_buildSlice hg _ _ 1 _ ho #[.int .u8 c] i _ ht hi hz (by rw [hsz]; decide) (by rw [hsz]; decide) ?_ (h _ (hid (heap_alloc_new _ _)) (hid ((Below.refl _ _).alloc (Nat.le_refl _) _)))
  rw [hsz]
  simp only [List.map_cons, List.map_nil, hx, Value.cells, Array.toList_map]
  kernel_rfl
theorem own_lower {w : World} {B B' : Nat} {e : TypeId} {size : Nat} {v : Value} {n : Nat} {xs : List Value} (o : w.ownsRow B e size v n xs) (hB : B' ≤ B) : w.ownsRow B' e size v n xs :=
  ⟨o.1, o.2.imp id (fun ⟨g, cap, cur, e, hb, rest⟩ => ⟨g, cap, cur, e, Nat.le_trans hB hb, rest⟩)⟩
theorem own_row1 {w : World} {g B : Nat} {c : Nat} (h : w.heap[g]? = some (.cells #[.int .u8 (c : Int)] 5 (0, 0))) (hB : B ≤ g) : w.ownsRow B 5 1 (.slice (some ⟨g, 0, none⟩) 1 1) 1 (nums .u8 [c]) :=
  ⟨rfl, .inr ⟨g, 1, _, rfl, hB, h, Nat.le_refl _, by decide, rfl, rfl⟩⟩
theorem ByA.sl {w : World} {a : Option Addr} {n c : Nat} {bs : List Nat} (h : ByA w (.slice a n c) bs) : Sl .u8 w a n c bs := by
  obtain ⟨a', n', c', e, hs, _⟩ := h
  simp only [Value.slice.injEq] at e
  obtain ⟨rfl, rfl, rfl⟩ := e
  exact hs
theorem ByA.sl_eq {w : World} {v : Value} {bs : List Nat} (h : ByA w v bs) : ∃ a c, v = .slice a bs.length c := by
  obtain ⟨a, n, c, rfl, hs, _⟩ := h
  exact ⟨a, c, by rw [hs.len]⟩
theorem byA_row {w : World} {g : Nat} (xs : List Nat) {us : Array Value} (h : w.heap[g]? = some (.cells us 5 (0, 0))) (hu : us.toList = nums .u8 xs) (h8 : ∀ d ∈ xs, d < 256) (hl : xs.length ≤ maxLen) (n : Nat) (hn : n = xs.length) : ByA w (.slice (some ⟨g, 0, none⟩) n n) xs := by
  subst hn
  refine ⟨_, _, _, rfl, ⟨by simp, Nat.le_refl _, hl, (fun e => nomatch e), g, 0, fun _ => rfl, fun j u hj => ?_⟩, h8, (fun e => nomatch e), fun g' off sp e => ?_⟩
  · rw [Nat.zero_add, cell_of_row w g j us _ (0, 0) h, ← Array.getElem?_toList, hu]
    exact hj
  · simp only [Option.some.injEq, Addr.mk.injEq] at e
    obtain ⟨rfl, _, _⟩ := e
    exact ⟨_, h⟩
/-- a record under way: its bytes are old ones, or lie in a row of bytes -/
def EncOk (w wr : World) (r : LR) : Prop := r.t < 18446744073709551616 ∧ (∀ d ∈ r.v, d < 256) ∧ r.v.length ≤ 1000001 ∧ (Sl .u8 w r.a r.v.length r.c r.v ∨ ByA wr (.slice r.a r.v.length r.c) r.v)
theorem EncOk.keep {S : Nat → Prop} {w wr w' : World} {r : LR} (h : EncOk w wr r) (k : Keep S wr w') (hn : ∀ i, i < wr.heap.size → S i → NoBy wr i) : EncOk w w' r := ⟨h.1, h.2.1, h.2.2.1, h.2.2.2.imp id (fun b => b.keep k hn)⟩
theorem EncOk.below {w wr w' : World} {r : LR} (h : EncOk w wr r) (b : Below wr.heap.size wr w') : EncOk w w' r := h.keep (Keep.of (S := fun _ => False) b) (fun _ _ h => h.elim)
theorem EncOk.good {w wr : World} {r : LR} (h : EncOk w wr r) (b : Below w.heap.size w wr) : r.good wr := by
  obtain ⟨h1, h2, h3, h4⟩ := h
  refine ⟨h1, ?_, h2, by omega⟩
  rcases h4 with h4 | h4
  · exact h4.below b
  · exact h4.sl
def EncI (w : World) (ls : List LC) (j : Nat) (v : Value) (wr : World) : Prop :=
  ∃ rs : List LR, wr.ownsRow w.heap.size 103 2 v rs.length (rs.flatMap LR.cells) ∧ rs.map LR.pr = encC ((ls.take j).map LC.chg) ∧ (∀ r ∈ rs, EncOk w wr r) ∧ Below w.heap.size w wr
theorem EncI.below {w wr w' : World} {ls : List LC} {j : Nat} {v : Value} (h : EncI w ls j v wr) (b : Below wr.heap.size wr w') : EncI w ls j v w' := by
  obtain ⟨rs, h1, h2, h3, h4⟩ := h
  exact ⟨rs, own_below h1 b, h2, fun r hr => (h3 r hr).below b, h4.trans (b.mono h4.size)⟩
theorem EncI.step {w wr w' : World} {ls : List LC} {j : Nat} {v v' : Value} {rs : List LR} {l : LC} (hl : ls[j]? = some l) (h1 : wr.ownsRow w.heap.size 103 2 v rs.length (rs.flatMap LR.cells)) (h2 : rs.map LR.pr = encC ((ls.take j).map LC.chg)) (h3 : ∀ r ∈ rs, EncOk w wr r) (h4 : Below w.heap.size w wr)
    (gd : l.good w) (hlk : l.k.length ≤ 1000000) (hlv : l.v.length ≤ 1000000) (hj : j < 1000000) {a7 : Option Addr} {c7 : Nat} (hv : ByA wr (.slice a7 (valB l.chg).length c7) (valB l.chg))
    (o : w'.ownsRow w.heap.size 103 2 v' (rs.length + 2) (rs.flatMap LR.cells ++ [.int .u64 ((2 * j : Nat) : Int), .slice l.ka l.k.length l.kc, .int .u64 ((2 * j + 1 : Nat) : Int), .slice a7 (valB l.chg).length c7])) (k : Keep (fun i => v.ownBlock = some i) wr w') : EncI w ls (j + 1) v' w' := by
  have hn : ∀ i, i < wr.heap.size → v.ownBlock = some i → NoBy wr i := fun i _ e => own_noBy h1 (by decide) e
  have hjl : (ls.take j).length = j := by rw [List.length_take]; have := (List.getElem?_eq_some_iff.1 hl).1; omega
  refine ⟨rs ++ [⟨2 * j, l.ka, l.kc, l.k⟩, ⟨2 * j + 1, a7, c7, valB l.chg⟩], ?_, ?_, fun r hr => ?_, ?_⟩
  · rw [List.length_append, List.flatMap_append]
    exact o
  · rw [List.map_append, h2, take_succ_some hl, List.map_append]
    show _ = encC (_ ++ [l.chg])
    rw [encC_snoc, List.length_map, hjl]
    rfl
  · rw [List.mem_append] at hr
    rcases hr with hr | hr
    · exact (h3 r hr).keep k hn
    · simp only [List.mem_cons, List.not_mem_nil, or_false] at hr
      rcases hr with rfl | rfl
      · exact ⟨by show 2 * j < _; omega, gd.k8, by show l.k.length ≤ _; omega, .inl gd.ks⟩
      · refine ⟨by show 2 * j + 1 < _; omega, ?_, ?_, .inr (hv.keep k hn)⟩
        · obtain ⟨_, _, _, _, _, hb, _⟩ := hv
          exact hb
        · show (valB l.chg).length ≤ _
          have : l.chg.v = l.v := rfl
          unfold valB
          split
          · decide
          · rw [List.length_cons, this]; omega
  · exact h4.trans (k.below (fun i e => (h1.lt i e).1) h4.size)
set_option maxRecDepth 100000 in
set_option maxHeartbeats 4000000 in
theorem senc_walk (a : Option Addr) (N cap : Nat) (ls : List LC) (w : World) (hc : Chs w a N cap ls) (hN : N ≤ 1000000) (hb : ∀ l ∈ ls, l.k.length ≤ 1000000 ∧ l.v.length ≤ 1000000) :
    Calls Tryz.prog 35 #[.slice a N cap] w (EncRes2 w (encC (ls.map LC.chg))) := by
  have HC := hid hc
  have HN := hid hN
  have HB := hid hb
  have HL := hid hc.2.1
  clear hc hN hb
  go_enter Tryz.func35, Tryz.ntmps35
  go_wp2_with (fail)
  go_loopw [4, 10] (fun x4 x10 wr => ∃ (j : Nat), j ≤ N ∧ x10 = .int .i64 (j : Int) ∧ EncI w ls j x4 wr) (fun _ x10 _ => N - (intOf x10).toNat)
  case atStart => exact ⟨0, Nat.zero_le _, rfl, [], ⟨rfl, .inl ⟨rfl, rfl⟩⟩, rfl, by simp, Below.refl _ _⟩
  case round =>
    obtain ⟨j, hj, rfl, hi⟩ := hrel
    have IR := hid hi
    clear hi
    by_cases hlt : j < N
    case neg =>
      obtain rfl : j = N := by omega
      have t1 : decide (j < j) = false := decide_eq_false (by omega)
      have t2 : decide ((j : Int) < (j : Int)) = false := decide_eq_false (by omega)
      clear hj hlt
      obtain ⟨rs, h1, h2, h3, h4⟩ := IR.out
      rw [List.take_of_length_le (by rw [HL.out]; exact Nat.le_refl _)] at h2
      obtain ⟨a4, c4, rfl, rd⟩ := Rd.of_owns h1
      have EC := hid (enc_walk2 a4 rs.length c4 rs wr ⟨rd, rfl, fun r hr => (h3 r hr).good h4⟩)
      have H2 := hid h2
      have H4 := hid h4
      clear h1 h2 h3 h4 rd IR
      go_wp2_with (fail)
      refine EC.out.mono ?_
      rintro e w5 ⟨v5, rfl, o5, b5⟩
      have O5 := hid o5
      have B5 := hid b5
      rw [H2.out] at O5 ⊢
      clear o5 b5
      go_wp2_with (fail)
      go_ret2
      exact ⟨v5, rfl, own_lower O5.out H4.out.size, H4.out.trans (B5.out.mono H4.out.size)⟩
    have t1 : decide (j < N) = true := decide_eq_true hlt
    have t2 : decide ((j : Int) < (N : Int)) = true := decide_eq_true (by omega)
    obtain ⟨l, hl⟩ := get_some HL.out hlt
    have hbr : Below w.heap.size w wr := by obtain ⟨_, _, _, _, h⟩ := IR.out; exact h
    obtain ⟨b, off, rfl, c0, c1, c2, gd⟩ := (HC.out.below hbr).cells hl
    have GD := hid (HC.out.2.2 l (List.mem_of_getElem? hl))
    have LB := hid (HB.out l (List.mem_of_getElem? hl))
    have GW := hid hl
    obtain ⟨j1, hj1⟩ : ∃ j1, j1 = j + 1 := ⟨_, rfl⟩
    obtain ⟨j2, hj2⟩ : ∃ j2, j2 = 2 * j := ⟨_, rfl⟩
    obtain ⟨j3, hj3⟩ : ∃ j3, j3 = 2 * j + 1 := ⟨_, rfl⟩
    have r4 : IntKind.i64.wrap ((j : Int) + 1) = (j1 : Int) := by have := HN.out; rw [IntKind.wrap_i64]; omega
    have r5 : IntKind.i64.wrap (2 * (j : Int)) = (j2 : Int) := by have := HN.out; rw [IntKind.wrap_i64]; omega
    have r6 : IntKind.i64.wrap ((j2 : Int) + 1) = (j3 : Int) := by have := HN.out; rw [IntKind.wrap_i64]; omega
    have r7 : IntKind.u64.wrap (j2 : Int) = (j2 : Int) := by have := HN.out; simp [IntKind.wrap, IntKind.signed, IntKind.bits]; omega
    have r8 : IntKind.u64.wrap (j3 : Int) = (j3 : Int) := by have := HN.out; simp [IntKind.wrap, IntKind.signed, IntKind.bits]; omega
    have J1 := hid hj1
    have J2 := hid hj2
    have J3 := hid hj3
    have LT := hid hlt
    have NB := hid (show j < 1000000 by have := HN.out; omega)
    obtain ⟨ka, kc, k, va, vc, v, g⟩ := l
    have c0' : wr.cell? ⟨b, off + j * 3, none⟩ = some (.slice ka k.length kc) := c0
    have c1' : wr.cell? ⟨b, off + j * 3 + 1, none⟩ = some (.slice va v.length vc) := c1
    have c2' : wr.cell? ⟨b, off + j * 3 + 2, none⟩ = some (.bool g) := c2
    have BR := hid hbr
    have VN := hid (show v.length ≤ 1000000 from LB.out.2)
    have VS := hid (gd.vs)
    have CH := hid (show LC.chg ⟨ka, kc, k, va, vc, v, g⟩ = ⟨k, v, g⟩ from rfl)
    clear c0 c1 c2 hl gd hj hlt hj1 hj2 hj3 hbr
    go_upto_region 5 with (fail)
    refine newW ?_
    intro wa HA BA
    go_upto_region 6 with (fail)
    refine newW ?_
    intro wb HB' BB
    have cc := cell_keep BB.out (show wa.cell? ⟨wr.heap.size, 2, none⟩ = some (.bool g) from gen_cell (L := [.slice ka k.length kc, .slice va v.length vc, .bool g]) (j := 2) (row_range HA.out) rfl)
    have cb := cell_keep BB.out (show wa.cell? ⟨wr.heap.size, 1, none⟩ = some (.slice va v.length vc) from gen_cell (L := [.slice ka k.length kc, .slice va v.length vc, .bool g]) (j := 1) (row_range HA.out) rfl)
    have ca := cell_keep BB.out (show wa.cell? ⟨wr.heap.size, 0, none⟩ = some (.slice ka k.length kc) from gen_cell (L := [.slice ka k.length kc, .slice va v.length vc, .bool g]) (j := 0) (row_range HA.out) rfl)
    have IB := hid ((IR.out.below BA.out).below BB.out)
    have BWB := hid (BR.out.trans ((BA.out.trans (BB.out.mono BA.out.size)).mono BR.out.size))
    have VB := hid ((VS.out.below BA.out).below BB.out)
    clear IR VS
    cases g with
    | true =>
      go_upto_region 8 with (fail)
      obtain ⟨rs, h1, h2, h3, h4⟩ := IB.out
      have O1 := hid h1
      have O2 := hid h2
      have O3 := hid h3
      have RL := hid (show rs.length = 2 * j by have := congrArg List.length h2; rw [List.length_map, encC, recsFrom_len, List.length_map, List.length_take, HL.out] at this; have := LT.out; omega)
      have VV := hid (show ByA wb (.slice (some ⟨wa.heap.size, 0, none⟩) 1 1) [0] from byA_row [0] HB'.out rfl (by decide) (by decide) 1 rfl)
      clear h1 h2 h3 h4
      go_upto_region 9 with (at_builtin; refine wpList_pushKm rfl _ _ 100 rfl tyRec w.heap.size O1.out rfl 2 rfl rfl rfl (by have := RL.out; have := NB.out; omega) (by decide) BWB.out.size ?_; intro v9 w9 own9 k9)
      have E9 := hid (show EncI w ls j1 v9 w9 from by
        rw [J1.out]
        exact EncI.step (a7 := some ⟨wa.heap.size, 0, none⟩) (c7 := 1) GW.out O1.out O2.out O3.out BWB.out GD.out LB.out.1 LB.out.2 NB.out VV.out (by rw [← J3.out, ← J2.out]; exact own9) k9)
      clear own9 k9 O1 O2 O3
      go_wp2_with (fail)
      go_roundw
      case rel => exact ⟨j1, by have := LT.out; have := J1.out; omega, rfl, E9.out⟩
      case measure => simp [intOf]; have := J1.out; have := LT.out; omega
    | false =>
      go_upto_region 7 with (fail)
      go_upto_region 8 with (first | (refine wpList_lit8 rfl _ rfl rfl ?_; intro wc HC' BC'; have cb7 := cell_keep BC'.out cb) | (at_builtin; refine wpList_cat rfl _ _ 22 rfl tyBs wb.heap.size (own_row1 HC'.out (Nat.le_refl _)) rfl rfl (Rd.below VB.out BC'.out) (nums_oneCell _ _) (by have := VN.out; omega) (by have := VN.out; unfold maxLen; omega) BC'.out.size ?_; intro v7 w7 own7 b7 s7 _))
      have BC := hid (show Below wb.heap.size wb w7 from BC'.out.trans b7)
      have V7 := hid (show ByA w7 v7 (1 :: v) from ByA.own (n := 1 + v.length) own7 (fun d hd => (List.mem_cons.1 hd).elim (fun e => by rw [e]; decide) (fun h => GD.out.v8 d h)))
      clear own7 b7 s7
      have ca7 := cell_keep BC.out ca
      obtain ⟨rs, h1, h2, h3, h4⟩ := IB.out.below BC.out
      have BW7 := hid h4
      have O1 := hid h1
      have O2 := hid h2
      have O3 := hid h3
      have RL := hid (show rs.length = 2 * j by have := congrArg List.length h2; rw [List.length_map, encC, recsFrom_len, List.length_map, List.length_take, HL.out] at this; have := LT.out; omega)
      obtain ⟨a7, c7, rfl⟩ := V7.out.sl_eq
      clear h1 h2 h3 h4 ca cb cc
      go_upto_region 9 with (at_builtin; refine wpList_pushKm rfl _ _ 100 rfl tyRec w.heap.size O1.out rfl 2 rfl rfl rfl (by have := RL.out; have := NB.out; omega) (by decide) BW7.out.size ?_; intro v9 w9 own9 k9)
      have E9 := hid (show EncI w ls j1 v9 w9 from by
        rw [J1.out]
        exact EncI.step (a7 := a7) (c7 := c7) GW.out O1.out O2.out O3.out BW7.out GD.out LB.out.1 LB.out.2 NB.out V7.out (by rw [← J3.out, ← J2.out]; exact own9) k9)
      clear own9 k9 O1 O2 O3
      go_wp2_with (fail)
      go_roundw
      case rel => exact ⟨j1, by have := LT.out; have := J1.out; omega, rfl, E9.out⟩
      case measure => simp [intOf]; have := J1.out; have := LT.out; omega
end Go.Proofs.YtnophelfpoldfaaGreatDoor
