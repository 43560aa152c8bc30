/- The store's decode. -/
import Derived.Test.YtnophelfpoldfaaGreatDoorGSte
import Derived.Test.YtnophelfpoldfaaGreatDoorGDec
import Derived.Test.YtnophelfpoldfaaGreatDoorGSts
namespace Go.Proofs.YtnophelfpoldfaaGreatDoor
open Go.RowKit

theorem decGo_len : ∀ (f : Nat) (p : Option Nat) (n : Nat) (bs : List Nat) (r : Pr), r ∈ (decGo f p n bs).1 → r.2.length ≤ bs.length := by
  intro f
  induction f with
  | zero => intro p n bs r h; simp [decGo] at h
  | succ f ih =>
    intro p n bs r h
    cases bs with
    | nil => simp [decGo] at h
    | cons x t =>
      unfold decGo at h
      dsimp only at h
      split at h
      · simp at h
      · split at h
        · simp at h
        · split at h
          · simp at h
          · split at h
            · simp at h
            · split at h
              · simp at h
              · split at h
                · simp at h
                · split at h
                  · simp at h
                  · simp only [List.mem_cons] at h
                    rcases h with rfl | h
                    · dsimp only
                      rw [List.length_take, List.length_drop, List.length_drop]
                      omega
                    · have := ih _ _ _ r h
                      rw [List.length_drop, List.length_drop, List.length_drop] at this
                      omega
theorem decS_len {bs : List Nat} {r : Pr} (h : r ∈ (decS bs).1) : r.2.length ≤ bs.length := decGo_len _ _ _ _ _ h
theorem run_dropD {w0 : World} {b off n c m : Nat} {xs : List Nat} {M : Int} (hM : M = (m : Int)) (hS : Sl .u8 w0 (some ⟨b, off, none⟩) n c xs) (hm : m ≤ n) :
    ∃ off', Sl .u8 w0 (some ⟨b, off', none⟩) (n - m) (c - m) (xs.drop m) ∧ ∀ w : World, (Instr.sliceAt 22 (.slice (some ⟨b, off, none⟩) n c) (some (.int .i64 M)) none none).run Tryz.prog w = .ok (.slice (some ⟨b, off', none⟩) (n - m) (c - m)) w := by
  subst hM
  have hadd : (⟨b, off, none⟩ : Addr).add m = ⟨b, off + m, none⟩ := by unfold Addr.add; split <;> simp_all
  have hs : ∀ w : World, (Instr.sliceAt 22 (.slice (some ⟨b, off, none⟩) n c) (some (.int .i64 (m : Int))) none none).run Tryz.prog w = .ok (.slice (if c = m then some (⟨b, off, none⟩ : Addr) else some ⟨b, off + m, none⟩) (n - m) (c - m)) w := fun w => by
    rw [run_sliceAt_slice w _ _ _ _ _ undU8, run_slice_any w _ _ _ _ undU8]
    simp [Instr.sliceBounds, run_sliceBound w, szU8, Result.andThen, sliced, hadd, hm]
  have hd := Sl.drop hS hm
  split at hd
  · rename_i hc; rw [if_pos hc] at hs; exact ⟨_, hd, hs⟩
  · rename_i hc; rw [if_neg hc] at hs; exact ⟨_, hd, hs⟩
def DecCR (w : World) (bs : List Nat) (e : Ending) (w' : World) : Prop :=
  Below w.heap.size w w' ∧ match decB bs with
  | none => e = .returned (.tuple #[.slice none 0 0, .int .i64 21])
  | some cs => ∃ a N cap ls, e = .returned (.tuple #[.slice a N cap, .int .i64 0]) ∧ Chs w' a N cap ls ∧ ls.map LC.chg = cs ∧ (∀ l ∈ ls, l.v.length ≤ bs.length) ∧ N ≤ 128
theorem DecCR.no {w w' : World} {bs : List Nat} (h : decB bs = none) (b : Below w.heap.size w w') : DecCR w bs (.returned (.tuple #[.slice none 0 0, .int .i64 21])) w' := by
  unfold DecCR; rw [h]; exact ⟨b, rfl⟩
/-- the loop's state -/
def DecJ (wd : World) (X : Nat) (prs : List Pr) (j : Nat) (v : Value) (wr : World) : Prop :=
  ∃ ls : List LC, wr.ownsRow wd.heap.size 42 3 v j (ls.flatMap LC.cells) ∧ ls.length = j ∧ (∀ l ∈ ls, l.good wd ∧ l.v.length ≤ X) ∧ decC 0 prs = (decC (2 * j) (prs.drop (2 * j))).map (ls.map LC.chg ++ ·) ∧ Below wd.heap.size wd wr
theorem DecJ.below {wd wr w' : World} {X : Nat} {prs : List Pr} {j : Nat} {v : Value} (h : DecJ wd X prs j v wr) (b : Below wr.heap.size wr w') : DecJ wd X prs j v w' := by
  obtain ⟨ls, h1, h2, h3, h4, h5⟩ := h
  exact ⟨ls, own_below h1 b, h2, h3, h4, h5.trans (b.mono h5.size)⟩
theorem pr_get {ls : List LR} {i : Nat} {r : LR} (h : ls[i]? = some r) : (ls.map LR.pr)[i]? = some r.pr := by rw [List.getElem?_map, h]; rfl
theorem DecJ.bad {wd wr : World} {X : Nat} {prs : List Pr} {j : Nat} {v : Value} {k w : Pr} (h : DecJ wd X prs j v wr) (hk : prs[2 * j]? = some k) (hw : prs[2 * j + 1]? = some w) (hb : pairBad (2 * j) k w = true) : decC 0 prs = none := by
  obtain ⟨ls, _, _, _, h4, _⟩ := h
  rw [h4, decC_step hk hw, if_pos hb]; rfl
theorem DecJ.step {wd w' : World} {X : Nat} {prs : List Pr} {j : Nat} {v' : Value} {k w : Pr} {ls : List LC} (h2 : ls.length = j) (h3 : ∀ l ∈ ls, l.good wd ∧ l.v.length ≤ X) (h4 : decC 0 prs = (decC (2 * j) (prs.drop (2 * j))).map (ls.map LC.chg ++ ·)) (hk : prs[2 * j]? = some k) (hw : prs[2 * j + 1]? = some w) (hb : pairBad (2 * j) k w = false)
    (l : LC) (hl : l.good wd) (hx : l.v.length ≤ X) (hc : l.chg = pairC k w) (ho : w'.ownsRow wd.heap.size 42 3 v' (j + 1) (ls.flatMap LC.cells ++ l.cells)) (b : Below wd.heap.size wd w') : DecJ wd X prs (j + 1) v' w' := by
  refine ⟨ls ++ [l], ?_, by simp [h2], fun x hx' => ?_, ?_, b⟩
  · rw [List.flatMap_append]
    simpa using ho
  · rw [List.mem_append] at hx'
    rcases hx' with hx' | hx'
    · exact h3 x hx'
    · simp only [List.mem_cons, List.not_mem_nil, or_false] at hx'
      subst hx'; exact ⟨hl, hx⟩
  · rw [h4, decC_step hk hw, if_neg (by rw [hb]; decide), Option.map_map, show 2 * (j + 1) = 2 * j + 2 by omega]
    congr 1
    funext x
    simp [hc]
theorem DecJ.grow {wd w7 : World} {X : Nat} {prs : List Pr} {j : Nat} {v7 : Value} {xs : List LC} {kt kc vt vb vo vo' vc vn : Nat} {ka : Option Addr} {kv vv : List Nat} {g : Bool} (h2 : xs.length = j) (h3 : ∀ l ∈ xs, l.good wd ∧ l.v.length ≤ X) (h4 : decC 0 prs = (decC (2 * j) (prs.drop (2 * j))).map (xs.map LC.chg ++ ·))
    (hk : prs[2 * j]? = some (LR.pr ⟨kt, ka, kc, kv⟩)) (hw : prs[2 * j + 1]? = some (LR.pr ⟨vt, some ⟨vb, vo, none⟩, vc, vv⟩)) (hb : pairBad (2 * j) (LR.pr ⟨kt, ka, kc, kv⟩) (LR.pr ⟨vt, some ⟨vb, vo, none⟩, vc, vv⟩) = false)
    (gk : LR.good wd ⟨kt, ka, kc, kv⟩) (gv : LR.good wd ⟨vt, some ⟨vb, vo, none⟩, vc, vv⟩) (hn : vn = vv.length) (ds : Sl .u8 wd (some ⟨vb, vo', none⟩) (vn - 1) (vc - 1) (vv.drop 1)) (hx : vv.length ≤ X) (hg : g = decide (vv.getD 0 0 = 0))
    (ho : w7.ownsRow wd.heap.size 42 3 v7 (j + 1) (xs.flatMap LC.cells ++ [.slice ka kv.length kc, .slice (some ⟨vb, vo', none⟩) (vn - 1) (vc - 1), .bool g])) (b : Below wd.heap.size wd w7) : DecJ wd X prs (j + 1) v7 w7 := by
  have hl : (vv.drop 1).length = vn - 1 := by rw [List.length_drop, hn]
  refine DecJ.step h2 h3 h4 hk hw hb ⟨ka, kc, kv, some ⟨vb, vo', none⟩, vc - 1, vv.drop 1, g⟩ ⟨gk.2.1, gk.2.2.1, ?_, fun d hd => gv.2.2.1 d (List.mem_of_mem_drop hd)⟩ ?_ ?_ ?_ b
  · show Sl .u8 wd _ (vv.drop 1).length _ _
    rw [hl]; exact ds
  · show (vv.drop 1).length ≤ X
    rw [List.length_drop]; omega
  · show Chg.mk kv (vv.drop 1) g = Chg.mk kv (vv.drop 1) (decide (vv.getD 0 0 = 0))
    rw [hg]
  · show w7.ownsRow _ _ _ _ _ (_ ++ [.slice ka kv.length kc, .slice (some ⟨vb, vo', none⟩) (vv.drop 1).length (vc - 1), .bool g])
    rw [hl]; exact ho
theorem wp_store_rowS {P : Program} {w : World} {o : Oper} {a : Act} {K : Act → World → Prop} {Q : Exit → Act → World → Prop} (t : TypeId) (x y : Operand) (ho : o.op = .store t x y)
    (g : Nat) (cs : Array Value) (hx : a.eval x = .pointer (some ⟨g, 0, none⟩)) (hy : a.eval y = .agg cs) (t0 : TypeId) (old : Array Value) (hg : w.heap[g]? = some (.cells old t0 (0, 0)))
    (hi : (P.info? t).map (·.size) = some cs.size) (hold : old.size = cs.size) (h1 : cs.all (·.oneCell') = true) (h : ∀ w', Hid (w'.heap[g]? = some (.cells cs t0 (0, 0))) → Hid (Far g w w') → K (a.put o.dst undef) w') : o.wp P a w K Q :=
  wp_store_row t x y ho g cs hx hy t0 old hg hi hold h1 (h _ (setRow_heap _ _ _ _ _ _ hg) (far_row _ _ _))
set_option maxRecDepth 100000 in
set_option maxHeartbeats 8000000 in
theorem sdec_walk (a : Option Addr) (n cap : Nat) (bs : List Nat) (hbs : ∀ d ∈ bs, d < 256) (hn : n ≤ 1000000) (w : World) (h : Sl .u8 w a n cap bs) :
    Calls Tryz.prog 33 #[.slice a n cap] w (DecCR w bs) := by
  have HL := hid h.len
  have DE := hid (dec_walk a n cap bs hbs (by omega) w h)
  clear h hbs
  go_enter Tryz.func33, Tryz.ntmps33
  go_wp2_with (fail)
  refine DE.out.mono ?_
  rintro e wd ⟨v, ls, rfl, hr, hp, hl, hb⟩
  obtain ⟨la, lc, rfl, rcs⟩ := hr
  have RC := hid rcs
  have PR := hid hp
  have BD := hid hb
  have LL := hid hl
  obtain ⟨er, her⟩ : ∃ er, er = (decS bs).2 := ⟨_, rfl⟩
  have ER := hid her
  have VL := hid (show ∀ r ∈ ls, r.v.length ≤ bs.length from fun r hr => decS_len (r := r.pr) (by rw [← hp]; exact List.mem_map_of_mem hr))
  rw [← her]
  clear rcs hp hb hl her DE
  obtain ⟨N, hN⟩ : ∃ N, N = ls.length := ⟨_, rfl⟩
  have NL := hid hN
  rw [← hN]
  clear hN
  by_cases h0 : er = 0
  case neg =>
    have t1 : ((er : Int) == 0) = false := beq_eq_false_iff_ne.2 (by omega)
    have t2 : (!((er : Int) == 0)) = true := by rw [t1]; rfl
    have D := hid (show decB bs = none by unfold decB; rw [if_pos (.inl (by rw [← ER.out]; exact h0))])
    clear h0
    go_wp2_with (fail)
    go_ret2
    exact .no D.out BD.out
  obtain rfl := h0
  by_cases hev : N % 2 = 0
  case neg =>
    have t3 : (((N : Int) % 2) == 0) = false := beq_eq_false_iff_ne.2 (by omega)
    have t4 : (((N : Int).tmod 2) == 0) = false := beq_eq_false_iff_ne.2 (by rw [Int.tmod_eq_emod_of_nonneg (by omega)]; omega)
    have D := hid (show decB bs = none by unfold decB; rw [if_pos (.inr (by rw [← PR.out, List.length_map, ← NL.out]; exact hev))])
    clear hev
    go_wp2_with (fail)
    go_ret2
    exact .no D.out BD.out
  have t3 : (((N : Int) % 2) == 0) = true := beq_iff_eq.2 (by omega)
  have t4 : (((N : Int).tmod 2) == 0) = true := beq_iff_eq.2 (by rw [Int.tmod_eq_emod_of_nonneg (by omega)]; omega)
  have EV := hid hev
  have DB := hid (show decB bs = decC 0 (ls.map LR.pr) by unfold decB; rw [if_neg (by rw [← ER.out, ← PR.out, List.length_map, ← NL.out]; omega), PR.out])
  have BL := hid (show bs.length ≤ 1000000 by rw [HL.out]; exact hn)
  clear hev hn
  go_wp2_with (fail)
  go_loopw [6, 7] (fun x6 x7 wr => ∃ (j : Nat) (v6 : Value), v6 = x6 ∧ 2 * j ≤ N ∧ x7 = .int .i64 ((2 * j : Nat) : Int) ∧ DecJ wd bs.length (ls.map LR.pr) j v6 wr) (fun _ x7 _ => N - (intOf x7).toNat)
  case atStart => exact ⟨0, _, rfl, Nat.zero_le _, rfl, [], ⟨rfl, .inl ⟨rfl, rfl⟩⟩, rfl, by simp, by simp, Below.refl _ _⟩
  case round =>
    obtain ⟨j, v6, rfl, hj, rfl, hi⟩ := hrel
    have IR := hid hi
    obtain ⟨i2, hi2⟩ : ∃ i2, i2 = 2 * j := ⟨_, rfl⟩
    have I2 := hid hi2
    rw [← hi2] at hj ⊢
    clear hi
    by_cases hlt : i2 < N
    case neg =>
      obtain rfl : i2 = N := by omega
      have t1 : decide (i2 < i2) = false := decide_eq_false (by omega)
      have t2 : decide ((i2 : Int) < (i2 : Int)) = false := decide_eq_false (by omega)
      clear hj hlt
      obtain ⟨cs, h1, h2, h3, h4, h5⟩ := IR.out
      rw [List.drop_eq_nil_of_le (by rw [List.length_map, ← NL.out]; omega)] at h4
      have D := hid (show decB bs = some (cs.map LC.chg) by rw [DB.out, h4]; simp [decC])
      obtain ⟨a6, c6, rfl, rd⟩ := Rd.of_owns h1
      have RD := hid rd
      have H2 := hid h2
      have H3 := hid h3
      have H5 := hid h5
      clear h1 h2 h3 h4 h5 rd IR
      go_wp2_with (fail)
      go_ret2
      refine ⟨BD.out.trans (H5.out.mono BD.out.size), ?_⟩
      rw [D.out]
      exact ⟨_, _, _, cs, rfl, ⟨RD.out, H2.out, fun l hl => ((H3.out l hl).1).below H5.out⟩, rfl, fun l hl => (H3.out l hl).2, by have := LL.out; have := NL.out; have := I2.out; omega⟩
    have t1 : decide (i2 < N) = true := decide_eq_true hlt
    have t2 : decide ((i2 : Int) < (N : Int)) = true := decide_eq_true (by omega)
    have t2' : decide (2 * (j : Int) < (N : Int)) = true := decide_eq_true (by have := I2.out; omega)
    obtain ⟨i3, hi3⟩ : ∃ i3, i3 = i2 + 1 := ⟨_, rfl⟩
    have e3 : IntKind.i64.wrap ((i2 : Int) + 1) = (i3 : Int) := by have := LL.out; have := NL.out; rw [IntKind.wrap_i64]; omega
    have r7 : IntKind.u64.wrap (i2 : Int) = (i2 : Int) := by have := LL.out; have := NL.out; simp [IntKind.wrap, IntKind.signed, IntKind.bits]; omega
    have r8 : IntKind.u64.wrap (i3 : Int) = (i3 : Int) := by have := LL.out; have := NL.out; simp [IntKind.wrap, IntKind.signed, IntKind.bits]; omega
    have lt3 : i3 < N := by have := EV.out; have := I2.out; omega
    have t6 : decide (i3 < N) = true := decide_eq_true lt3
    have t7 : decide ((i3 : Int) < (N : Int)) = true := decide_eq_true (by omega)
    have t8 : (i3 : Int) < (N : Int) := by omega
    have t9 : ¬ ((N : Int) ≤ (i3 : Int)) := by omega
    have ta : (i2 : Int) < (N : Int) := by omega
    have tb : ¬ ((N : Int) ≤ (i2 : Int)) := by omega
    obtain ⟨kr, hkr⟩ := get_some NL.out.symm hlt
    obtain ⟨vr, hvr⟩ := get_some NL.out.symm lt3
    have KP := hid (show (ls.map LR.pr)[2 * j]? = some kr.pr by rw [← I2.out]; exact pr_get hkr)
    have VP := hid (show (ls.map LR.pr)[2 * j + 1]? = some vr.pr by rw [← I2.out, ← hi3]; exact pr_get hvr)
    have GK := hid (RC.out.2.2 kr (List.mem_of_getElem? hkr))
    have GV := hid (RC.out.2.2 vr (List.mem_of_getElem? hvr))
    have VX := hid (VL.out vr (List.mem_of_getElem? hvr))
    have BWR := hid (show Below wd.heap.size wd wr by obtain ⟨_, _, _, _, _, h⟩ := IR.out; exact h)
    obtain ⟨b, off, rfl, k0, k1, _⟩ := (RC.out.below BWR.out).cells hkr
    obtain ⟨b', off', eb, v0, v1, _⟩ := (RC.out.below BWR.out).cells hvr
    simp only [Option.some.injEq, Addr.mk.injEq, and_true] at eb
    obtain ⟨rfl, rfl⟩ := eb
    obtain ⟨kt, ka, kc, kv⟩ := kr
    obtain ⟨vt, va, vc, vv⟩ := vr
    dsimp only at k0 k1 v0 v1
    have I3 := hid hi3
    have LT := hid hlt
    have LT3 := hid lt3
    clear hkr hvr hi3 hj hlt lt3 hi2
    have hiR := hid (show (Tryz.prog.info? 103).map (·.size) = some 2 by kernel_rfl)
    go_upto_region 8 with (fail)
    refine wp_region_held_drew (S := fun w' => Below wr.heap.size wr w') (by kernel_rfl) ((Below.refl _ _).drew) (fun hHeld => ?_)
    try simp only [List.size_toArray, List.length_cons, List.length_nil, Nat.reduceAdd, Array.replicate_succ, Array.replicate_zero, List.push_toArray, List.nil_append, List.cons_append]
    refine wpAnyH_take (i := 0) (oi := { dst := some 29, op := Op.move (Operand.tmp 4), type := 100, pos := "store.go:53", after := #[], guard := none }) (v := ?v1001) rfl (by kernel_rfl) (by kernel_rfl) (by kernel_rfl) (fun _ _ _ h => h) (Or.inl ⟨by rfl, ?hy1001⟩) hHeld ?_
    case hy1001 => (intro w hSw; (try dsimp only at hSw); go_simp; (try with_reducible rfl))
    (try simp only [Act.put, List.setIfInBounds_toArray, List.set_cons_zero, List.set_cons_succ])
    refine wpAnyH_take (i := 1) (oi := { dst := some 30, op := Op.move (Operand.tmp 7), type := 3, pos := "store.go:53", after := #[], guard := none }) (v := ?v1002) rfl (by kernel_rfl) (by kernel_rfl) (by kernel_rfl) (fun _ _ _ h => h) (Or.inl ⟨by rfl, ?hy1002⟩) hHeld ?_
    case hy1002 => (intro w hSw; (try dsimp only at hSw); go_simp; (try with_reducible rfl))
    (try simp only [Act.put, List.setIfInBounds_toArray, List.set_cons_zero, List.set_cons_succ])
    refine wpAnyH_take (i := 2) (oi := { dst := some 31, op := Op.indexAddr 100 (Operand.tmp 29) (Operand.tmp 30), type := 0, pos := "store.go:53", after := #[{ on := 0, ground := Ground.data }, { on := 1, ground := Ground.data }], guard := none }) (v := ?v1003) rfl (by kernel_rfl) (by kernel_rfl) (by kernel_rfl) (fun _ _ _ h => h) (Or.inl ⟨by rfl, ?hy1003⟩) hHeld ?_
    case hy1003 => (intro w hSw; (try dsimp only at hSw); go_simp; (try with_reducible rfl))
    (try simp only [Act.put, List.setIfInBounds_toArray, List.set_cons_zero, List.set_cons_succ])
    refine wpAnyH_take (i := 3) (oi := { dst := some 32, op := Op.load 103 (Operand.tmp 31), type := 103, pos := "store.go:53", after := #[{ on := 2, ground := Ground.data }], guard := none }) (v := (.agg #[.int .u64 (kt : Int), .slice ka kv.length kc])) rfl (by kernel_rfl) (by kernel_rfl) (by kernel_rfl) (fun _ _ _ h => h) (Or.inl ⟨by rfl, fun w h => by have c9 := cell_keep h k0; have c9' := cell_keep h k1; go_simp⟩) hHeld ?_
    (try simp only [Act.put, List.setIfInBounds_toArray, List.set_cons_zero, List.set_cons_succ])
    refine wpAnyH_take (i := 4) (oi := { dst := some 33, op := Op.move (Operand.tmp 4), type := 100, pos := "store.go:53", after := #[{ on := 11, ground := Ground.gcOnly Departure.lateStores }], guard := none }) (v := ?v1004) rfl (by kernel_rfl) (by kernel_rfl) (by kernel_rfl) (fun _ _ _ h => h) (Or.inl ⟨by rfl, ?hy1004⟩) hHeld ?_
    case hy1004 => (intro w hSw; (try dsimp only at hSw); go_simp; (try with_reducible rfl))
    (try simp only [Act.put, List.setIfInBounds_toArray, List.set_cons_zero, List.set_cons_succ])
    refine wpAnyH_take (i := 5) (oi := { dst := some 34, op := Op.move (Operand.tmp 7), type := 3, pos := "store.go:53", after := #[{ on := 11, ground := Ground.gcOnly Departure.lateStores }], guard := none }) (v := ?v1005) rfl (by kernel_rfl) (by kernel_rfl) (by kernel_rfl) (fun _ _ _ h => h) (Or.inl ⟨by rfl, ?hy1005⟩) hHeld ?_
    case hy1005 => (intro w hSw; (try dsimp only at hSw); go_simp; (try with_reducible rfl))
    (try simp only [Act.put, List.setIfInBounds_toArray, List.set_cons_zero, List.set_cons_succ])
    refine wpAnyH_take (i := 6) (oi := { dst := some 35, op := Op.binOp BinOp.add 3 (Operand.tmp 34) (Operand.const (Value.int IntKind.i64 1)) 3, type := 3, pos := "store.go:53", after := #[{ on := 5, ground := Ground.data }, { on := 11, ground := Ground.gcOnly Departure.lateStores }], guard := none }) (v := ?v1006) rfl (by kernel_rfl) (by kernel_rfl) (by kernel_rfl) (fun _ _ _ h => h) (Or.inl ⟨by rfl, ?hy1006⟩) hHeld ?_
    case hy1006 => (intro w hSw; (try dsimp only at hSw); go_simp; (try with_reducible rfl))
    (try simp only [Act.put, List.setIfInBounds_toArray, List.set_cons_zero, List.set_cons_succ])
    refine wpAnyH_take (i := 7) (oi := { dst := some 36, op := Op.indexAddr 100 (Operand.tmp 33) (Operand.tmp 35), type := 0, pos := "store.go:53", after := #[{ on := 4, ground := Ground.data }, { on := 6, ground := Ground.data }, { on := 11, ground := Ground.gcOnly Departure.lateStores }], guard := none }) (v := ?v1007) rfl (by kernel_rfl) (by kernel_rfl) (by kernel_rfl) (fun _ _ _ h => h) (Or.inl ⟨by rfl, ?hy1007⟩) hHeld ?_
    case hy1007 => (intro w hSw; (try dsimp only at hSw); go_simp; (try with_reducible rfl))
    (try simp only [Act.put, List.setIfInBounds_toArray, List.set_cons_zero, List.set_cons_succ])
    refine wpAnyH_take (i := 8) (oi := { dst := some 37, op := Op.load 103 (Operand.tmp 36), type := 103, pos := "store.go:53", after := #[{ on := 7, ground := Ground.data }, { on := 11, ground := Ground.gcOnly Departure.lateStores }], guard := none }) (v := (.agg #[.int .u64 (vt : Int), .slice va vv.length vc])) rfl (by kernel_rfl) (by kernel_rfl) (by kernel_rfl) (fun _ _ _ h => h) (Or.inl ⟨by rfl, fun w h => by have c9 := cell_keep h v0; have c9' := cell_keep h v1; go_simp⟩) hHeld ?_
    (try simp only [Act.put, List.setIfInBounds_toArray, List.set_cons_zero, List.set_cons_succ])
    refine wpAnyH_ready (rs := [9, 10]) (by kernel_rfl) (by simp) ?_
    refine AllReadyH.cons (o := { dst := some 8, op := Op.alloc 103, type := 0, pos := "store.go:53", after := #[], guard := none }) rfl (fun K hK => ?_) ?_
    go_simp; (first | refine newZ ?_ | refine newZd ?_); intro w9 H9 B9; obtain ⟨g1, hg1⟩ := nameS H9.out; simp only [hg1] at H9 ⊢; have LG1 := hid (show wr.heap.size ≤ g1 from by rw [← hg1]; first | exact Nat.le_refl _ | exact hHeld.size); have LH1 := hid (Array.getElem?_eq_some_iff.1 H9.out).1; have EG1 := hid hg1; clear hg1
    refine hK.out _ _ (by first | exact hHeld.trans (B9.out.mono hHeld.size) | exact B9.out) (fun hHeld => ?_)
    clear hK K
    (try simp only [List.setIfInBounds_toArray, List.set_cons_zero, List.set_cons_succ])
    refine wpAnyH_ready (rs := [10]) (by kernel_rfl) (by simp) ?_
    refine AllReadyH.cons (o := { dst := some 9, op := Op.alloc 103, type := 0, pos := "store.go:53", after := #[], guard := none }) rfl (fun K hK => ?_) ?_
    go_simp; (first | refine newZ ?_ | refine newZd ?_); intro w10 H10 B10; obtain ⟨g2, hg2⟩ := nameS H10.out; simp only [hg2] at H10 ⊢; have LG2 := hid (show wr.heap.size ≤ g2 from by rw [← hg2]; first | exact Nat.le_refl _ | exact hHeld.size); have LH2 := hid (Array.getElem?_eq_some_iff.1 H10.out).1; have EG2 := hid hg2; clear hg2
    refine hK.out _ _ (by first | exact hHeld.trans (B10.out.mono hHeld.size) | exact B10.out) (fun hHeld => ?_)
    clear hK K
    (try simp only [List.setIfInBounds_toArray, List.set_cons_zero, List.set_cons_succ])
    refine wpAnyH_ready (rs := [11]) (by kernel_rfl) (by simp) ?_
    refine AllReadyH.cons (o := { dst := none, op := Op.store 103 (Operand.tmp 8) (Operand.tmp 32), type := 0, pos := "store.go:53", after := #[{ on := 9, ground := Ground.data }, { on := 3, ground := Ground.data }, { on := 0, ground := Ground.phase }, { on := 1, ground := Ground.phase }, { on := 2, ground := Ground.phase }, { on := 3, ground := Ground.phase }, { on := 4, ground := Ground.textOnly Departure.lateStores }, { on := 5, ground := Ground.textOnly Departure.lateStores }, { on := 6, ground := Ground.textOnly Departure.lateStores }, { on := 7, ground := Ground.textOnly Departure.lateStores }, { on := 8, ground := Ground.textOnly Departure.lateStores }, { on := 9, ground := Ground.phase }, { on := 10, ground := Ground.phase }], guard := none }) rfl (fun K hK => ?_) ?_
    have NE := hid (show g1 ≠ g2 from by have := EG1.out; have := EG2.out; have := LH1.out; have := LH2.out; omega); rw [if_pos (by rfl)]; refine wp_store_rowS _ _ _ rfl g1 #[.int .u64 (kt : Int), .slice ka kv.length kc] rfl rfl _ _ (by first | exact H9.out | exact heap_keep H9.out B10.out) hiR.out (by rfl) (by simp [Value.oneCell']) ?_; intro w11 H11 F11
    refine hK.out _ _ (hHeld.trans ((Keep.far' F11.out).below (fun i e => e ▸ LG1.out) hHeld.size)) (fun hHeld => ?_)
    clear hK K
    (try simp only [List.setIfInBounds_toArray, List.set_cons_zero, List.set_cons_succ])
    refine wpAnyH_ready (rs := [12]) (by kernel_rfl) (by simp) ?_
    refine AllReadyH.cons (o := { dst := none, op := Op.store 103 (Operand.tmp 9) (Operand.tmp 37), type := 0, pos := "store.go:53", after := #[{ on := 10, ground := Ground.data }, { on := 8, ground := Ground.data }, { on := 11, ground := Ground.chain }, { on := 0, ground := Ground.phase }, { on := 1, ground := Ground.phase }, { on := 2, ground := Ground.phase }, { on := 3, ground := Ground.phase }, { on := 4, ground := Ground.phase }, { on := 5, ground := Ground.phase }, { on := 6, ground := Ground.phase }, { on := 7, ground := Ground.phase }, { on := 8, ground := Ground.phase }, { on := 9, ground := Ground.phase }, { on := 10, ground := Ground.phase }, { on := 11, ground := Ground.phase }], guard := none }) rfl (fun K hK => ?_) ?_
    rw [if_pos (by rfl)]; refine wp_store_rowS _ _ _ rfl g2 #[.int .u64 (vt : Int), .slice va vv.length vc] rfl rfl _ _ (by first | exact heap_far H10.out F11.out (Ne.symm NE.out) | exact heap_far (heap_keep H10.out B9.out) F11.out (Ne.symm NE.out)) hiR.out (by rfl) (by simp [Value.oneCell']) ?_; intro w12 H12 F12
    refine hK.out _ _ (hHeld.trans ((Keep.far' F12.out).below (fun i e => e ▸ LG2.out) hHeld.size)) (fun hHeld => ?_)
    clear hK K
    (try simp only [List.setIfInBounds_toArray, List.set_cons_zero, List.set_cons_succ])
    refine wpAnyH_done (by kernel_rfl) ?_ _
    rotate_left
    exact AllReadyH.nil
    exact AllReadyH.nil
    exact AllReadyH.nil
    refine AllReadyH.cons (o := { dst := some 9, op := Op.alloc 103, type := 0, pos := "store.go:53", after := #[], guard := none }) rfl (fun K hK => ?_) ?_
    go_simp; (first | refine newZ ?_ | refine newZd ?_); intro w10 H10 B10; obtain ⟨g2, hg2⟩ := nameS H10.out; simp only [hg2] at H10 ⊢; have LG2 := hid (show wr.heap.size ≤ g2 from by rw [← hg2]; first | exact Nat.le_refl _ | exact hHeld.size); have LH2 := hid (Array.getElem?_eq_some_iff.1 H10.out).1; have EG2 := hid hg2; clear hg2
    refine hK.out _ _ (by first | exact hHeld.trans (B10.out.mono hHeld.size) | exact B10.out) (fun hHeld => ?_)
    clear hK K
    (try simp only [List.setIfInBounds_toArray, List.set_cons_zero, List.set_cons_succ])
    refine wpAnyH_ready (rs := [9]) (by kernel_rfl) (by simp) ?_
    refine AllReadyH.cons (o := { dst := some 8, op := Op.alloc 103, type := 0, pos := "store.go:53", after := #[], guard := none }) rfl (fun K hK => ?_) ?_
    go_simp; (first | refine newZ ?_ | refine newZd ?_); intro w9 H9 B9; obtain ⟨g1, hg1⟩ := nameS H9.out; simp only [hg1] at H9 ⊢; have LG1 := hid (show wr.heap.size ≤ g1 from by rw [← hg1]; first | exact Nat.le_refl _ | exact hHeld.size); have LH1 := hid (Array.getElem?_eq_some_iff.1 H9.out).1; have EG1 := hid hg1; clear hg1
    refine hK.out _ _ (by first | exact hHeld.trans (B9.out.mono hHeld.size) | exact B9.out) (fun hHeld => ?_)
    clear hK K
    (try simp only [List.setIfInBounds_toArray, List.set_cons_zero, List.set_cons_succ])
    refine wpAnyH_ready (rs := [11]) (by kernel_rfl) (by simp) ?_
    refine AllReadyH.cons (o := { dst := none, op := Op.store 103 (Operand.tmp 8) (Operand.tmp 32), type := 0, pos := "store.go:53", after := #[{ on := 9, ground := Ground.data }, { on := 3, ground := Ground.data }, { on := 0, ground := Ground.phase }, { on := 1, ground := Ground.phase }, { on := 2, ground := Ground.phase }, { on := 3, ground := Ground.phase }, { on := 4, ground := Ground.textOnly Departure.lateStores }, { on := 5, ground := Ground.textOnly Departure.lateStores }, { on := 6, ground := Ground.textOnly Departure.lateStores }, { on := 7, ground := Ground.textOnly Departure.lateStores }, { on := 8, ground := Ground.textOnly Departure.lateStores }, { on := 9, ground := Ground.phase }, { on := 10, ground := Ground.phase }], guard := none }) rfl (fun K hK => ?_) ?_
    have NE := hid (show g1 ≠ g2 from by have := EG1.out; have := EG2.out; have := LH1.out; have := LH2.out; omega); rw [if_pos (by rfl)]; refine wp_store_rowS _ _ _ rfl g1 #[.int .u64 (kt : Int), .slice ka kv.length kc] rfl rfl _ _ (by first | exact H9.out | exact heap_keep H9.out B10.out) hiR.out (by rfl) (by simp [Value.oneCell']) ?_; intro w11 H11 F11
    refine hK.out _ _ (hHeld.trans ((Keep.far' F11.out).below (fun i e => e ▸ LG1.out) hHeld.size)) (fun hHeld => ?_)
    clear hK K
    (try simp only [List.setIfInBounds_toArray, List.set_cons_zero, List.set_cons_succ])
    refine wpAnyH_ready (rs := [12]) (by kernel_rfl) (by simp) ?_
    refine AllReadyH.cons (o := { dst := none, op := Op.store 103 (Operand.tmp 9) (Operand.tmp 37), type := 0, pos := "store.go:53", after := #[{ on := 10, ground := Ground.data }, { on := 8, ground := Ground.data }, { on := 11, ground := Ground.chain }, { on := 0, ground := Ground.phase }, { on := 1, ground := Ground.phase }, { on := 2, ground := Ground.phase }, { on := 3, ground := Ground.phase }, { on := 4, ground := Ground.phase }, { on := 5, ground := Ground.phase }, { on := 6, ground := Ground.phase }, { on := 7, ground := Ground.phase }, { on := 8, ground := Ground.phase }, { on := 9, ground := Ground.phase }, { on := 10, ground := Ground.phase }, { on := 11, ground := Ground.phase }], guard := none }) rfl (fun K hK => ?_) ?_
    rw [if_pos (by rfl)]; refine wp_store_rowS _ _ _ rfl g2 #[.int .u64 (vt : Int), .slice va vv.length vc] rfl rfl _ _ (by first | exact heap_far H10.out F11.out (Ne.symm NE.out) | exact heap_far (heap_keep H10.out B9.out) F11.out (Ne.symm NE.out)) hiR.out (by rfl) (by simp [Value.oneCell']) ?_; intro w12 H12 F12
    refine hK.out _ _ (hHeld.trans ((Keep.far' F12.out).below (fun i e => e ▸ LG2.out) hHeld.size)) (fun hHeld => ?_)
    clear hK K
    (try simp only [List.setIfInBounds_toArray, List.set_cons_zero, List.set_cons_succ])
    refine wpAnyH_done (by kernel_rfl) ?_ _
    rotate_left
    exact AllReadyH.nil
    exact AllReadyH.nil
    exact AllReadyH.nil
    exact AllReadyH.nil
    all_goals
      have BZ := hid hHeld
      have R1 := row_range (L := [.int .u64 (kt : Int), .slice ka kv.length kc]) (heap_far H11.out F12.out NE.out)
      have R2 := row_range (L := [.int .u64 (vt : Int), .slice va vv.length vc]) H12.out
      have d10 : w12.cell? ⟨g1, 0, none⟩ = some (.int .u64 (kt : Int)) := gen_cell (j := 0) R1 rfl
      have d11 : w12.cell? ⟨g1, 1, none⟩ = some (.slice ka kv.length kc) := gen_cell (j := 1) R1 rfl
      have d20 : w12.cell? ⟨g2, 0, none⟩ = some (.int .u64 (vt : Int)) := gen_cell (j := 0) R2 rfl
      have d21 : w12.cell? ⟨g2, 1, none⟩ = some (.slice va vv.length vc) := gen_cell (j := 1) R2 rfl
      obtain ⟨xs, o1, o2, o3, o4, o5⟩ := IR.out
      have OW := hid o1
      have OL := hid o2
      have OG := hid o3
      have OD := hid o4
      clear o1 o2 o3 o4 o5
      have n1 := hid (show ¬ v6.ownBlock = some g1 from fun e => by have := (OW.out.lt _ e).2; have := LG1.out; omega)
      have n2 := hid (show ¬ v6.ownBlock = some g2 from fun e => by have := (OW.out.lt _ e).2; have := LG2.out; omega)
      clear R1 R2 H11 H12 F11 F12 H9 H10 B9 B10 NE LG1 LG2 LH1 LH2 EG1 EG2 k0 k1 v0 v1 hHeld hiR
      have BF := hid (show Below w.heap.size w w12 from BD.out.trans ((BWR.out.trans (BZ.out.mono BWR.out.size)).mono BD.out.size))
      by_cases hk : kt = i2
      case neg =>
        have q1 : ((kt : Int) == (i2 : Int)) = false := beq_eq_false_iff_ne.2 (by omega)
        have q1' : ¬ (kt : Int) = (i2 : Int) := by omega
        have D := hid (show decB bs = none by rw [DB.out]; exact IR.out.bad KP.out VP.out (pairBad_iff.2 (.inl (by rw [← I2.out]; exact hk))))
        clear hk
        go_wp2_with (fail)
        go_ret2
        exact .no D.out BF.out
      subst hk
      by_cases hv : vt = i3
      case neg =>
        have q2 : ((vt : Int) == (i3 : Int)) = false := beq_eq_false_iff_ne.2 (by omega)
        have q2' : ¬ (vt : Int) = (i3 : Int) := by omega
        have D := hid (show decB bs = none by rw [DB.out]; exact IR.out.bad KP.out VP.out (pairBad_iff.2 (.inr (.inl (by rw [← I2.out, ← I3.out]; exact hv)))))
        clear hv
        go_wp2_with (fail)
        go_ret2
        exact .no D.out BF.out
      subst hv
      by_cases hz : vv.length = 0
      case pos =>
        have D := hid (show decB bs = none by rw [DB.out]; exact IR.out.bad KP.out VP.out (pairBad_iff.2 (.inr (.inr (.inl hz)))))
        obtain rfl := List.eq_nil_of_length_eq_zero hz
        clear hz
        go_wp2_with (fail)
        go_ret2
        exact .no D.out BF.out
      have hp : 0 < vv.length := by omega
      obtain ⟨vn, hvn⟩ : ∃ vn, vn = vv.length := ⟨_, rfl⟩
      have VN := hid hvn
      rw [← hvn] at d21
      have q3 : ((vn : Int) == 0) = false := beq_eq_false_iff_ne.2 (by omega)
      have q3' : ¬ (vn : Int) = 0 := by omega
      have q3'' : ¬ vn = 0 := by omega
      have q4 : decide (0 < vn) = true := decide_eq_true (by omega)
      have q4' : (0 : Int) < (vn : Int) := by omega
      have q4'' : ¬ ((vn : Int) ≤ 0) := by omega
      obtain ⟨vb, vo, hva, hcl⟩ := (GV.out.2.1).opened
      obtain rfl := hva hp
      have n3 := hid (show ¬ v6.ownBlock = some vb from fun e => by have := (OW.out.lt _ e).1; have := World.block_lt_of_cell? wd _ (hcl 0 hp); dsimp only at this; omega)
      have d3 := cell_keep (BWR.out.trans (BZ.out.mono BWR.out.size)) (hcl 0 hp)
      obtain ⟨hd, hhd⟩ : ∃ hd, hd = vv.getD 0 0 := ⟨_, rfl⟩
      rw [← hhd, Nat.add_zero] at d3
      have HD := hid hhd
      have ZL := hid hp
      clear hz hp hva hcl hhd hvn
      by_cases h1 : 1 < hd
      case pos =>
        have q5 : decide (1 < hd) = true := decide_eq_true h1
        have q5' : decide ((1 : Int) < (hd : Int)) = true := decide_eq_true (by omega)
        have D := hid (show decB bs = none by rw [DB.out]; exact IR.out.bad KP.out VP.out (pairBad_iff.2 (.inr (.inr (.inr (.inl (by rw [HD.out] at h1; exact h1)))))))
        clear h1
        go_wp2_with (fail)
        go_ret2
        exact .no D.out BF.out
      obtain ⟨vo', DS, DR⟩ := run_dropD (M := 1) (m := 1) rfl GV.out.2.1 ZL.out
      dsimp only at DR DS
      rw [← VN.out] at DR DS
      have DSH := hid DS
      clear DS
      by_cases h0 : hd = 0
      case pos =>
        subst h0
        by_cases h2 : 1 < vn
        case pos =>
          have q7 : decide (1 < vn) = true := decide_eq_true h2
          have q7' : decide ((1 : Int) < (vn : Int)) = true := decide_eq_true (by omega)
          have D := hid (show decB bs = none by rw [DB.out]; exact IR.out.bad KP.out VP.out (pairBad_iff.2 (.inr (.inr (.inr (.inr ⟨HD.out.symm, by rw [VN.out] at h2; exact h2⟩))))))
          clear h1 h2
          go_wp2_with (fail)
          go_ret2
          exact .no D.out BF.out
        have q7 : decide (1 < vn) = false := decide_eq_false h2
        have q7' : decide ((1 : Int) < (vn : Int)) = false := decide_eq_false (by omega)
        have PB := hid (show pairBad (2 * j) (LR.pr ⟨kt, ka, kc, kv⟩) (LR.pr ⟨vt, some ⟨vb, vo, none⟩, vc, vv⟩) = false from
          pairBad_no I2.out (by rw [← I2.out]; exact I3.out) (by have := ZL.out; show vv.length ≠ 0; omega) (by rw [show (LR.pr ⟨vt, some ⟨vb, vo, none⟩, vc, vv⟩).2.getD 0 0 = 0 from HD.out.symm]; decide) (fun h => h2 (by rw [VN.out]; exact h.2)))
        clear h1 h2
        go_upto_region 11 with (fail)
        refine wp_region_held_drew (S := fun w' => Keep (fun i => v6.ownBlock = some i) w12 w') (by kernel_rfl) (Keep.of (Below.refl _ _).drew) (fun hHeld => ?_)
        try simp only [List.size_toArray, List.length_cons, List.length_nil, Nat.reduceAdd, Array.replicate_succ, Array.replicate_zero, List.push_toArray, List.nil_append, List.cons_append]
        refine wpAnyH_take (i := 0) (oi := { dst := some 77, op := Op.move (Operand.tmp 6), type := 40, pos := "store.go:57", after := #[], guard := none }) (v := v6) rfl (by kernel_rfl) (by kernel_rfl) (by kernel_rfl) (fun _ _ _ h => h) (Or.inl ⟨by rfl, fun w _ => by go_simp⟩) hHeld ?_
        (try simp only [Act.put, List.setIfInBounds_toArray, List.set_cons_zero, List.set_cons_succ])
        refine wpAnyH_take (i := 1) (oi := { dst := some 78, op := Op.fieldAddr 103 (Operand.tmp 8) 1, type := 0, pos := "store.go:57", after := #[], guard := none }) (v := (.pointer (some ⟨g1, 1, none⟩))) rfl (by kernel_rfl) (by kernel_rfl) (by kernel_rfl) (fun _ _ _ h => h) (Or.inl ⟨by rfl, fun w _ => by go_simp⟩) hHeld ?_
        (try simp only [Act.put, List.setIfInBounds_toArray, List.set_cons_zero, List.set_cons_succ])
        refine wpAnyH_take (i := 2) (oi := { dst := some 79, op := Op.load 22 (Operand.tmp 78), type := 22, pos := "store.go:57", after := #[{ on := 1, ground := Ground.data }], guard := none }) (v := (.slice ka kv.length kc)) rfl (by kernel_rfl) (by kernel_rfl) (by kernel_rfl) (fun _ _ _ h => h) (Or.inl ⟨by rfl, fun w h => by have c9 := h.cell d11 n1.out; go_simp⟩) hHeld ?_
        (try simp only [Act.put, List.setIfInBounds_toArray, List.set_cons_zero, List.set_cons_succ])
        refine wpAnyH_take (i := 3) (oi := { dst := some 80, op := Op.fieldAddr 103 (Operand.tmp 9) 1, type := 0, pos := "store.go:57", after := #[], guard := none }) (v := (.pointer (some ⟨g2, 1, none⟩))) rfl (by kernel_rfl) (by kernel_rfl) (by kernel_rfl) (fun _ _ _ h => h) (Or.inl ⟨by rfl, fun w _ => by go_simp⟩) hHeld ?_
        (try simp only [Act.put, List.setIfInBounds_toArray, List.set_cons_zero, List.set_cons_succ])
        refine wpAnyH_take (i := 4) (oi := { dst := some 81, op := Op.load 22 (Operand.tmp 80), type := 22, pos := "store.go:57", after := #[{ on := 3, ground := Ground.data }], guard := none }) (v := (.slice (some ⟨vb, vo, none⟩) vn vc)) rfl (by kernel_rfl) (by kernel_rfl) (by kernel_rfl) (fun _ _ _ h => h) (Or.inl ⟨by rfl, fun w h => by have c9 := h.cell d21 n2.out; go_simp⟩) hHeld ?_
        (try simp only [Act.put, List.setIfInBounds_toArray, List.set_cons_zero, List.set_cons_succ])
        refine wpAnyH_take (i := 5) (oi := { dst := some 82, op := Op.slice 22 (Operand.tmp 81) (some (Operand.const (Value.int IntKind.i64 1))) none none, type := 22, pos := "store.go:57", after := #[{ on := 4, ground := Ground.data }], guard := none }) (v := (.slice (some ⟨vb, vo', none⟩) (vn - 1) (vc - 1))) rfl (by kernel_rfl) (by kernel_rfl) (by kernel_rfl) (fun _ _ _ h => h) (Or.inl ⟨by rfl, fun w _ => by have c9 := DR w; go_simp⟩) hHeld ?_
        (try simp only [Act.put, List.setIfInBounds_toArray, List.set_cons_zero, List.set_cons_succ])
        refine wpAnyH_take (i := 6) (oi := { dst := some 83, op := Op.fieldAddr 103 (Operand.tmp 9) 1, type := 0, pos := "store.go:57", after := #[], guard := none }) (v := (.pointer (some ⟨g2, 1, none⟩))) rfl (by kernel_rfl) (by kernel_rfl) (by kernel_rfl) (fun _ _ _ h => h) (Or.inl ⟨by rfl, fun w _ => by go_simp⟩) hHeld ?_
        (try simp only [Act.put, List.setIfInBounds_toArray, List.set_cons_zero, List.set_cons_succ])
        refine wpAnyH_take (i := 7) (oi := { dst := some 84, op := Op.load 22 (Operand.tmp 83), type := 22, pos := "store.go:57", after := #[{ on := 6, ground := Ground.data }], guard := none }) (v := (.slice (some ⟨vb, vo, none⟩) vn vc)) rfl (by kernel_rfl) (by kernel_rfl) (by kernel_rfl) (fun _ _ _ h => h) (Or.inl ⟨by rfl, fun w h => by have c9 := h.cell d21 n2.out; go_simp⟩) hHeld ?_
        (try simp only [Act.put, List.setIfInBounds_toArray, List.set_cons_zero, List.set_cons_succ])
        refine wpAnyH_take (i := 8) (oi := { dst := some 85, op := Op.indexAddr 22 (Operand.tmp 84) (Operand.const (Value.int IntKind.i64 0)), type := 0, pos := "store.go:57", after := #[{ on := 7, ground := Ground.data }], guard := none }) (v := (.pointer (some ⟨vb, vo, none⟩))) rfl (by kernel_rfl) (by kernel_rfl) (by kernel_rfl) (fun _ _ _ h => h) (Or.inl ⟨by rfl, fun w _ => by go_simp⟩) hHeld ?_
        (try simp only [Act.put, List.setIfInBounds_toArray, List.set_cons_zero, List.set_cons_succ])
        refine wpAnyH_take (i := 9) (oi := { dst := some 86, op := Op.load 5 (Operand.tmp 85), type := 5, pos := "store.go:57", after := #[{ on := 8, ground := Ground.data }], guard := none }) (v := (.int .u8 0)) rfl (by kernel_rfl) (by kernel_rfl) (by kernel_rfl) (fun _ _ _ h => h) (Or.inl ⟨by rfl, fun w h => by have c9 := h.cell d3 n3.out; go_simp⟩) hHeld ?_
        (try simp only [Act.put, List.setIfInBounds_toArray, List.set_cons_zero, List.set_cons_succ])
        refine wpAnyH_take (i := 10) (oi := { dst := some 87, op := Op.binOp BinOp.eql 5 (Operand.tmp 86) (Operand.const (Value.int IntKind.u8 0)) 5, type := 4, pos := "store.go:57", after := #[{ on := 9, ground := Ground.data }], guard := none }) (v := (.bool true)) rfl (by kernel_rfl) (by kernel_rfl) (by kernel_rfl) (fun _ _ _ h => h) (Or.inl ⟨by rfl, fun w _ => by go_simp⟩) hHeld ?_
        (try simp only [Act.put, List.setIfInBounds_toArray, List.set_cons_zero, List.set_cons_succ])
        refine wpAnyH_take (i := 11) (oi := { dst := some 88, op := Op.build 42 #[(0, Operand.tmp 79), (1, Operand.tmp 82), (2, Operand.tmp 87)], type := 42, pos := "store.go:57", after := #[{ on := 2, ground := Ground.data }, { on := 5, ground := Ground.data }, { on := 10, ground := Ground.data }], guard := none }) (v := (.agg #[.slice ka kv.length kc, .slice (some ⟨vb, vo', none⟩) (vn - 1) (vc - 1), .bool true])) rfl (by kernel_rfl) (by kernel_rfl) (by kernel_rfl) (fun _ _ _ h => h) (Or.inl ⟨by rfl, fun w _ => by go_simp⟩) hHeld ?_
        (try simp only [Act.put, List.setIfInBounds_toArray, List.set_cons_zero, List.set_cons_succ])
        refine wpAnyH_ready (rs := [12]) (by kernel_rfl) (by simp) ?_
        refine AllReadyH.cons (o := { dst := some 89, op := Op.buildSlice 40 1 #[(0, Operand.tmp 88)], type := 40, pos := "store.go:57", after := #[{ on := 11, ground := Ground.data }], guard := none }) rfl (fun K hK => ?_) ?_
        refine wp_lit1 _ _ _ rfl (cells := #[.slice ka kv.length kc, .slice (some ⟨vb, vo', none⟩) (vn - 1) (vc - 1), .bool true]) rfl Tryz.underlying40 (size := 3) (by kernel_rfl) (by kernel_rfl) rfl (by decide) (by decide) ?_; (first | refine newZd ?_ | refine newZ ?_); intro wq HQ BQ; have BQ := hid (show Below w12.heap.size w12 wq from by first | exact BQ.out | exact (Below.refl w12.heap.size w12).drew.trans BQ.out)
        refine hK.out _ _ (by first | exact hHeld.trans (Keep.of BQ.out) | exact Keep.of BQ.out) (fun hHeld => ?_)
        clear hK K
        (try simp only [List.setIfInBounds_toArray, List.set_cons_zero, List.set_cons_succ])
        refine wpAnyH_ready (rs := [13]) (by kernel_rfl) (by simp) ?_
        refine AllReadyH.cons (o := { dst := some 90, op := Op.call { callee := Callee.builtin Builtin.append, args := #[Operand.tmp 77, Operand.tmp 89], argTypes := #[40, 40] }, type := 40, pos := "store.go:57", after := #[{ on := 0, ground := Ground.data }, { on := 12, ground := Ground.data }], guard := none }) rfl (fun K hK => ?_) ?_
        rw [if_pos (by rfl)]; refine wp_pushK (us := [.slice ka kv.length kc, .slice (some ⟨vb, vo', none⟩) (vn - 1) (vc - 1), .bool true]) _ _ _ rfl tyCh wd.heap.size (own_below (own_below OW.out BZ.out) BQ.out) rfl rfl HQ.out rfl (by intro u hu; simp only [List.mem_cons, List.not_mem_nil, or_false] at hu; rcases hu with rfl | rfl | rfl <;> rfl) (by have := I2.out; have := LL.out; have := NL.out; have := LT.out; omega) (by decide) (BWR.out.trans ((BZ.out.trans (BQ.out.mono BZ.out.size)).mono BWR.out.size)).size ?_; intro v7 w7 own7 k7 nb7; have O7 := hid own7; have K7 := hid k7; clear own7 k7 nb7
        refine hK.out _ _ (hHeld.trans K7.out) (fun hHeld => ?_)
        clear hK K
        (try simp only [List.setIfInBounds_toArray, List.set_cons_zero, List.set_cons_succ])
        refine wpAnyH_take (i := 14) (oi := { dst := some 6, op := Op.assign (Operand.tmp 90), type := 40, pos := "store.go:57", after := #[{ on := 13, ground := Ground.data }, { on := 13, ground := Ground.chain }, { on := 0, ground := Ground.phase }, { on := 1, ground := Ground.phase }, { on := 2, ground := Ground.phase }, { on := 3, ground := Ground.phase }, { on := 4, ground := Ground.phase }, { on := 5, ground := Ground.phase }, { on := 6, ground := Ground.phase }, { on := 7, ground := Ground.phase }, { on := 8, ground := Ground.phase }, { on := 9, ground := Ground.phase }, { on := 10, ground := Ground.phase }, { on := 11, ground := Ground.phase }, { on := 12, ground := Ground.phase }, { on := 13, ground := Ground.phase }], guard := none }) (v := v7) rfl (by kernel_rfl) (by kernel_rfl) (by kernel_rfl) (fun _ _ _ h => h) (Or.inl ⟨by rfl, fun w _ => by go_simp⟩) hHeld ?_
        (try simp only [Act.put, List.setIfInBounds_toArray, List.set_cons_zero, List.set_cons_succ])
        refine wpAnyH_done (by kernel_rfl) ?_ _
        rotate_left
        exact AllReadyH.nil
        exact AllReadyH.nil
        have B7 := hid (show Below wd.heap.size wd w7 from (BWR.out.trans ((BZ.out.trans (BQ.out.mono BZ.out.size)).mono BWR.out.size)).trans (K7.out.below (fun i e => ((own_below (own_below OW.out BZ.out) BQ.out).lt i e).1) (BWR.out.trans ((BZ.out.trans (BQ.out.mono BZ.out.size)).mono BWR.out.size)).size))
        have E7 := hid (DecJ.grow OL.out OG.out OD.out KP.out VP.out PB.out GK.out GV.out VN.out DSH.out VX.out (by rw [← HD.out]; rfl) O7.out B7.out)
        obtain ⟨i4, hi4⟩ : ∃ i4, i4 = 2 * (j + 1) := ⟨_, rfl⟩
        have I4 := hid hi4
        have e5 : IntKind.i64.wrap ((kt : Int) + 2) = (i4 : Int) := by have := I2.out; have := LL.out; have := NL.out; have := LT.out; rw [IntKind.wrap_i64]; omega
        clear O7 K7 PB hi4
        go_wp2_with (fail)
        go_roundw
        case rel => exact ⟨u2, u3, v7, .int .i64 (i4 : Int), ⟨j + 1, by have := I2.out; have := LT3.out; have := I3.out; omega, congrArg (Value.int .i64) (by have := I4.out; omega), E7.out⟩, rfl, rfl, rfl, rfl⟩
        case measure => simp [intOf]; have := I2.out; have := LT.out; have := I4.out; omega
      obtain rfl : hd = 1 := by omega
      have PB := hid (show pairBad (2 * j) (LR.pr ⟨kt, ka, kc, kv⟩) (LR.pr ⟨vt, some ⟨vb, vo, none⟩, vc, vv⟩) = false from
        pairBad_no I2.out (by rw [← I2.out]; exact I3.out) (by have := ZL.out; show vv.length ≠ 0; omega) (by rw [show (LR.pr ⟨vt, some ⟨vb, vo, none⟩, vc, vv⟩).2.getD 0 0 = 1 from HD.out.symm]; decide) (by rw [show (LR.pr ⟨vt, some ⟨vb, vo, none⟩, vc, vv⟩).2.getD 0 0 = 1 from HD.out.symm]; exact fun h => nomatch h.1))
      clear h1 h0
      go_upto_region 11 with (fail)
      refine wp_region_held_drew (S := fun w' => Keep (fun i => v6.ownBlock = some i) w12 w') (by kernel_rfl) (Keep.of (Below.refl _ _).drew) (fun hHeld => ?_)
      try simp only [List.size_toArray, List.length_cons, List.length_nil, Nat.reduceAdd, Array.replicate_succ, Array.replicate_zero, List.push_toArray, List.nil_append, List.cons_append]
      refine wpAnyH_take (i := 0) (oi := { dst := some 77, op := Op.move (Operand.tmp 6), type := 40, pos := "store.go:57", after := #[], guard := none }) (v := v6) rfl (by kernel_rfl) (by kernel_rfl) (by kernel_rfl) (fun _ _ _ h => h) (Or.inl ⟨by rfl, fun w _ => by go_simp⟩) hHeld ?_
      (try simp only [Act.put, List.setIfInBounds_toArray, List.set_cons_zero, List.set_cons_succ])
      refine wpAnyH_take (i := 1) (oi := { dst := some 78, op := Op.fieldAddr 103 (Operand.tmp 8) 1, type := 0, pos := "store.go:57", after := #[], guard := none }) (v := (.pointer (some ⟨g1, 1, none⟩))) rfl (by kernel_rfl) (by kernel_rfl) (by kernel_rfl) (fun _ _ _ h => h) (Or.inl ⟨by rfl, fun w _ => by go_simp⟩) hHeld ?_
      (try simp only [Act.put, List.setIfInBounds_toArray, List.set_cons_zero, List.set_cons_succ])
      refine wpAnyH_take (i := 2) (oi := { dst := some 79, op := Op.load 22 (Operand.tmp 78), type := 22, pos := "store.go:57", after := #[{ on := 1, ground := Ground.data }], guard := none }) (v := (.slice ka kv.length kc)) rfl (by kernel_rfl) (by kernel_rfl) (by kernel_rfl) (fun _ _ _ h => h) (Or.inl ⟨by rfl, fun w h => by have c9 := h.cell d11 n1.out; go_simp⟩) hHeld ?_
      (try simp only [Act.put, List.setIfInBounds_toArray, List.set_cons_zero, List.set_cons_succ])
      refine wpAnyH_take (i := 3) (oi := { dst := some 80, op := Op.fieldAddr 103 (Operand.tmp 9) 1, type := 0, pos := "store.go:57", after := #[], guard := none }) (v := (.pointer (some ⟨g2, 1, none⟩))) rfl (by kernel_rfl) (by kernel_rfl) (by kernel_rfl) (fun _ _ _ h => h) (Or.inl ⟨by rfl, fun w _ => by go_simp⟩) hHeld ?_
      (try simp only [Act.put, List.setIfInBounds_toArray, List.set_cons_zero, List.set_cons_succ])
      refine wpAnyH_take (i := 4) (oi := { dst := some 81, op := Op.load 22 (Operand.tmp 80), type := 22, pos := "store.go:57", after := #[{ on := 3, ground := Ground.data }], guard := none }) (v := (.slice (some ⟨vb, vo, none⟩) vn vc)) rfl (by kernel_rfl) (by kernel_rfl) (by kernel_rfl) (fun _ _ _ h => h) (Or.inl ⟨by rfl, fun w h => by have c9 := h.cell d21 n2.out; go_simp⟩) hHeld ?_
      (try simp only [Act.put, List.setIfInBounds_toArray, List.set_cons_zero, List.set_cons_succ])
      refine wpAnyH_take (i := 5) (oi := { dst := some 82, op := Op.slice 22 (Operand.tmp 81) (some (Operand.const (Value.int IntKind.i64 1))) none none, type := 22, pos := "store.go:57", after := #[{ on := 4, ground := Ground.data }], guard := none }) (v := (.slice (some ⟨vb, vo', none⟩) (vn - 1) (vc - 1))) rfl (by kernel_rfl) (by kernel_rfl) (by kernel_rfl) (fun _ _ _ h => h) (Or.inl ⟨by rfl, fun w _ => by have c9 := DR w; go_simp⟩) hHeld ?_
      (try simp only [Act.put, List.setIfInBounds_toArray, List.set_cons_zero, List.set_cons_succ])
      refine wpAnyH_take (i := 6) (oi := { dst := some 83, op := Op.fieldAddr 103 (Operand.tmp 9) 1, type := 0, pos := "store.go:57", after := #[], guard := none }) (v := (.pointer (some ⟨g2, 1, none⟩))) rfl (by kernel_rfl) (by kernel_rfl) (by kernel_rfl) (fun _ _ _ h => h) (Or.inl ⟨by rfl, fun w _ => by go_simp⟩) hHeld ?_
      (try simp only [Act.put, List.setIfInBounds_toArray, List.set_cons_zero, List.set_cons_succ])
      refine wpAnyH_take (i := 7) (oi := { dst := some 84, op := Op.load 22 (Operand.tmp 83), type := 22, pos := "store.go:57", after := #[{ on := 6, ground := Ground.data }], guard := none }) (v := (.slice (some ⟨vb, vo, none⟩) vn vc)) rfl (by kernel_rfl) (by kernel_rfl) (by kernel_rfl) (fun _ _ _ h => h) (Or.inl ⟨by rfl, fun w h => by have c9 := h.cell d21 n2.out; go_simp⟩) hHeld ?_
      (try simp only [Act.put, List.setIfInBounds_toArray, List.set_cons_zero, List.set_cons_succ])
      refine wpAnyH_take (i := 8) (oi := { dst := some 85, op := Op.indexAddr 22 (Operand.tmp 84) (Operand.const (Value.int IntKind.i64 0)), type := 0, pos := "store.go:57", after := #[{ on := 7, ground := Ground.data }], guard := none }) (v := (.pointer (some ⟨vb, vo, none⟩))) rfl (by kernel_rfl) (by kernel_rfl) (by kernel_rfl) (fun _ _ _ h => h) (Or.inl ⟨by rfl, fun w _ => by go_simp⟩) hHeld ?_
      (try simp only [Act.put, List.setIfInBounds_toArray, List.set_cons_zero, List.set_cons_succ])
      refine wpAnyH_take (i := 9) (oi := { dst := some 86, op := Op.load 5 (Operand.tmp 85), type := 5, pos := "store.go:57", after := #[{ on := 8, ground := Ground.data }], guard := none }) (v := (.int .u8 1)) rfl (by kernel_rfl) (by kernel_rfl) (by kernel_rfl) (fun _ _ _ h => h) (Or.inl ⟨by rfl, fun w h => by have c9 := h.cell d3 n3.out; go_simp⟩) hHeld ?_
      (try simp only [Act.put, List.setIfInBounds_toArray, List.set_cons_zero, List.set_cons_succ])
      refine wpAnyH_take (i := 10) (oi := { dst := some 87, op := Op.binOp BinOp.eql 5 (Operand.tmp 86) (Operand.const (Value.int IntKind.u8 0)) 5, type := 4, pos := "store.go:57", after := #[{ on := 9, ground := Ground.data }], guard := none }) (v := (.bool false)) rfl (by kernel_rfl) (by kernel_rfl) (by kernel_rfl) (fun _ _ _ h => h) (Or.inl ⟨by rfl, fun w _ => by go_simp⟩) hHeld ?_
      (try simp only [Act.put, List.setIfInBounds_toArray, List.set_cons_zero, List.set_cons_succ])
      refine wpAnyH_take (i := 11) (oi := { dst := some 88, op := Op.build 42 #[(0, Operand.tmp 79), (1, Operand.tmp 82), (2, Operand.tmp 87)], type := 42, pos := "store.go:57", after := #[{ on := 2, ground := Ground.data }, { on := 5, ground := Ground.data }, { on := 10, ground := Ground.data }], guard := none }) (v := (.agg #[.slice ka kv.length kc, .slice (some ⟨vb, vo', none⟩) (vn - 1) (vc - 1), .bool false])) rfl (by kernel_rfl) (by kernel_rfl) (by kernel_rfl) (fun _ _ _ h => h) (Or.inl ⟨by rfl, fun w _ => by go_simp⟩) hHeld ?_
      (try simp only [Act.put, List.setIfInBounds_toArray, List.set_cons_zero, List.set_cons_succ])
      refine wpAnyH_ready (rs := [12]) (by kernel_rfl) (by simp) ?_
      refine AllReadyH.cons (o := { dst := some 89, op := Op.buildSlice 40 1 #[(0, Operand.tmp 88)], type := 40, pos := "store.go:57", after := #[{ on := 11, ground := Ground.data }], guard := none }) rfl (fun K hK => ?_) ?_
      refine wp_lit1 _ _ _ rfl (cells := #[.slice ka kv.length kc, .slice (some ⟨vb, vo', none⟩) (vn - 1) (vc - 1), .bool false]) rfl Tryz.underlying40 (size := 3) (by kernel_rfl) (by kernel_rfl) rfl (by decide) (by decide) ?_; (first | refine newZd ?_ | refine newZ ?_); intro wq HQ BQ; have BQ := hid (show Below w12.heap.size w12 wq from by first | exact BQ.out | exact (Below.refl w12.heap.size w12).drew.trans BQ.out)
      refine hK.out _ _ (by first | exact hHeld.trans (Keep.of BQ.out) | exact Keep.of BQ.out) (fun hHeld => ?_)
      clear hK K
      (try simp only [List.setIfInBounds_toArray, List.set_cons_zero, List.set_cons_succ])
      refine wpAnyH_ready (rs := [13]) (by kernel_rfl) (by simp) ?_
      refine AllReadyH.cons (o := { dst := some 90, op := Op.call { callee := Callee.builtin Builtin.append, args := #[Operand.tmp 77, Operand.tmp 89], argTypes := #[40, 40] }, type := 40, pos := "store.go:57", after := #[{ on := 0, ground := Ground.data }, { on := 12, ground := Ground.data }], guard := none }) rfl (fun K hK => ?_) ?_
      rw [if_pos (by rfl)]; refine wp_pushK (us := [.slice ka kv.length kc, .slice (some ⟨vb, vo', none⟩) (vn - 1) (vc - 1), .bool false]) _ _ _ rfl tyCh wd.heap.size (own_below (own_below OW.out BZ.out) BQ.out) rfl rfl HQ.out rfl (by intro u hu; simp only [List.mem_cons, List.not_mem_nil, or_false] at hu; rcases hu with rfl | rfl | rfl <;> rfl) (by have := I2.out; have := LL.out; have := NL.out; have := LT.out; omega) (by decide) (BWR.out.trans ((BZ.out.trans (BQ.out.mono BZ.out.size)).mono BWR.out.size)).size ?_; intro v7 w7 own7 k7 nb7; have O7 := hid own7; have K7 := hid k7; clear own7 k7 nb7
      refine hK.out _ _ (hHeld.trans K7.out) (fun hHeld => ?_)
      clear hK K
      (try simp only [List.setIfInBounds_toArray, List.set_cons_zero, List.set_cons_succ])
      refine wpAnyH_take (i := 14) (oi := { dst := some 6, op := Op.assign (Operand.tmp 90), type := 40, pos := "store.go:57", after := #[{ on := 13, ground := Ground.data }, { on := 13, ground := Ground.chain }, { on := 0, ground := Ground.phase }, { on := 1, ground := Ground.phase }, { on := 2, ground := Ground.phase }, { on := 3, ground := Ground.phase }, { on := 4, ground := Ground.phase }, { on := 5, ground := Ground.phase }, { on := 6, ground := Ground.phase }, { on := 7, ground := Ground.phase }, { on := 8, ground := Ground.phase }, { on := 9, ground := Ground.phase }, { on := 10, ground := Ground.phase }, { on := 11, ground := Ground.phase }, { on := 12, ground := Ground.phase }, { on := 13, ground := Ground.phase }], guard := none }) (v := v7) rfl (by kernel_rfl) (by kernel_rfl) (by kernel_rfl) (fun _ _ _ h => h) (Or.inl ⟨by rfl, fun w _ => by go_simp⟩) hHeld ?_
      (try simp only [Act.put, List.setIfInBounds_toArray, List.set_cons_zero, List.set_cons_succ])
      refine wpAnyH_done (by kernel_rfl) ?_ _
      rotate_left
      exact AllReadyH.nil
      exact AllReadyH.nil
      have B7 := hid (show Below wd.heap.size wd w7 from (BWR.out.trans ((BZ.out.trans (BQ.out.mono BZ.out.size)).mono BWR.out.size)).trans (K7.out.below (fun i e => ((own_below (own_below OW.out BZ.out) BQ.out).lt i e).1) (BWR.out.trans ((BZ.out.trans (BQ.out.mono BZ.out.size)).mono BWR.out.size)).size))
      have E7 := hid (DecJ.grow OL.out OG.out OD.out KP.out VP.out PB.out GK.out GV.out VN.out DSH.out VX.out (by rw [← HD.out]; rfl) O7.out B7.out)
      obtain ⟨i4, hi4⟩ : ∃ i4, i4 = 2 * (j + 1) := ⟨_, rfl⟩
      have I4 := hid hi4
      have e5 : IntKind.i64.wrap ((kt : Int) + 2) = (i4 : Int) := by have := I2.out; have := LL.out; have := NL.out; have := LT.out; rw [IntKind.wrap_i64]; omega
      clear O7 K7 PB hi4
      go_wp2_with (fail)
      go_roundw
      case rel => exact ⟨u2, u3, v7, .int .i64 (i4 : Int), ⟨j + 1, by have := I2.out; have := LT3.out; have := I3.out; omega, congrArg (Value.int .i64) (by have := I4.out; omega), E7.out⟩, rfl, rfl, rfl, rfl⟩
      case measure => simp [intOf]; have := I2.out; have := LT.out; have := I4.out; omega
end Go.Proofs.YtnophelfpoldfaaGreatDoor
