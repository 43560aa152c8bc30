/- The walk of asset.Decode. Printed by wip/gendd.py. -/
import Derived.Test.YtgaidleepjkldaaDoorGn
namespace Go.Proofs.YtgaidleepjkldaaDoor
open Go.RowKit

theorem FBad (w : World) (bs : List Nat) (k : Nat) {w' : World} (h : decG bs = (gz, k)) (b : Below w.heap.size w w') : GDec w bs (.returned (.tuple #[.agg (genZ 0), .int .i64 (k : Int)])) w' := GDec.bad h rfl b
theorem rb_ne {w : World} {B R : Nat} {l : LR} (h : RB w B l) (hR : R < B) : ∀ b off, l.a = some ⟨b, off, none⟩ → b ≠ R := by
  intro b off hl
  rcases h.2 with ⟨h1, _⟩ | ⟨g, cap, cur, h1, h2, _⟩
  · rw [hl] at h1; simp at h1
  · rw [hl] at h1
    simp only [Value.slice.injEq, Option.some.injEq, Addr.mk.injEq, and_true] at h1
    omega
theorem Gen.one (g : Gen) (a : Option Addr) (c : Nat) : ∀ v ∈ g.cells a c, v.oneCell' = true := by
  intro v hv
  simp only [Gen.cells, List.mem_append, List.mem_cons, List.not_mem_nil, or_false] at hv
  rcases hv with (((hv | rfl) | rfl) | hv) | rfl
  · exact nums_oneCell _ _ v hv
  · rfl
  · rfl
  · exact nums_oneCell _ _ v hv
  · rfl
set_option maxRecDepth 100000 in
set_option maxHeartbeats 8000000 in
theorem gdec_walk (a : Option Addr) (n cap : Nat) (bs : List Nat) (hbs : ∀ d ∈ bs, d < 256) (hn : n ≤ 140737488351232) (w : World) (h : Sl .u8 w a n cap bs) :
    Calls Tryd.prog 16 #[.slice a n cap] w (GDec w bs) := by
  have DW := fun wx hx => hid (dec_walk2 a n cap bs hbs hn wx hx)
  have ZV := zeroGen
  have FB := fun (k : Nat) {w' : World} => @FBad w bs k w'
  have hi67 := hid (show (Tryd.prog.info? 28).map (·.size) = some (genZ 0).size from infoGen)
  have HO := hid genZ_one
  have hz67 := hid genZ_size
  have hb0 := (Below.refl w.heap.size w).alloc (Nat.le_refl _) (.cells (genZ 0) 28)
  have hh0 := heap_alloc_new w (.cells (genZ 0) 28)
  have hs0 := h.below hb0
  have hne : ¬ (genZ 0) = #[] := by intro e; have := genZ_size; rw [e] at this; exact absurd this (by decide)
  clear h
  generalize genZ 0 = Z at *
  have HB0 := hid hb0
  have HH0 := hid hh0
  have HS0 := hid hs0
  clear hb0 hh0 hs0
  go_enter Tryd.func16, Tryd.ntmps16
  go_wp2_with fail
  refine (DW _ HS0.out).out.mono ?_
  rintro e w1 ⟨v, ls, rfl, ⟨a1, c1, rfl, r1⟩, hls, hl256, b1, _, hrb⟩
  have BX := hid (bstep HB0.out b1)
  have HX := hid (heap_keep HH0.out b1)
  clear b1 HB0 HH0 HS0 DW
  obtain ⟨R, hR⟩ : ∃ R, R = w.heap.size := ⟨_, rfl⟩
  rw [← hR] at HX ⊢
  have HR := hid (show w.heap.size ≤ R by omega)
  have HRB := hid (show ∀ l ∈ ls, ∀ b off, l.a = some ⟨b, off, none⟩ → b ≠ R from fun l hl => rb_ne (hrb l hl) (by rw [hR]; simp))
  clear hR hrb
  by_cases he : (decS bs).2 = 0
  · have hdG : decG bs = recsG (ls.map LR.pr) := by unfold decG; rw [if_neg (by omega), hls]
    rw [he]
    clear hls he
    by_cases h4 : ls.length = 4
    · rw [h4] at r1 ⊢
      have RC := hid r1
      have h4' := hid h4
      have hd := hid hdG
      obtain ⟨l, hl⟩ := get_some (j := 0) h4 (by decide)
      obtain ⟨b, off, ha1, -⟩ := r1.cells hl
      subst ha1
      clear r1 hdG hl l
      have HX0 := HX
      have BX0 := BX
      clear hl256
      go_wp2
      go_loopw [26] (fun x26 wr => ∃ k : Nat, k ≤ 4 ∧ x26 = .int .i64 k ∧ Hid (∀ j l, j < k → ls[j]? = some l → l.t = 2 * j) ∧ Below w1.heap.size w1 wr) (fun x26 _ => 4 - (intOf x26).toNat)
      case atStart => exact ⟨0, by omega, rfl, hid (fun j l hj => by omega), Below.refl _ _⟩
      case round =>
        obtain ⟨k, hk, rfl, hty, hb⟩ := hrel
        clear HX BX
        have HX := hid (heap_keep HX0.out hb)
        have BX := hid (bstep BX0.out hb)
        have RB := hid (RC.out.below hb)
        by_cases hlt : k < 4
        · obtain ⟨l, hl⟩ := get_some h4'.out hlt
          obtain ⟨b', off', hbb, c0, c1', gd⟩ := RB.out.cells hl
          simp only [Option.some.injEq, Addr.mk.injEq, and_true] at hbb
          obtain ⟨rfl, rfl⟩ := hbb
          have hl' := hid hl
          have gt := gd.1
          have tw : IntKind.u64.wrap (2 * (k : Int)) = 2 * (k : Int) := by simp [IntKind.wrap, IntKind.bits, IntKind.signed]; omega
          have bA := (Below.refl wr.heap.size wr).alloc (Nat.le_refl _) (.cells #[.int .u64 (l.t : Int), .slice l.a l.v.length l.c] 58)
          clear gd hl
          by_cases ht : l.t = 2 * k
          · have te : ((l.t : Int) != 2 * (k : Int)) = false := by simp; omega
            have H2 := hid (show ∀ j l, j < k + 1 → ls[j]? = some l → l.t = 2 * j from fun j l2 hj hl2 => by
              by_cases hjk : j = k
              · subst hjk; rw [hl'.out] at hl2; cases hl2; exact ht
              · exact hty.out j l2 (by omega) hl2)
            have B2 := hid (bstep hb bA)
            clear ht bA
            go_wp2
            go_roundw
            case rel => exact ⟨k + 1, by omega, by go_num, H2.out, B2.out⟩
            case measure => simp [intOf]; omega
          · have te : ((l.t : Int) != 2 * (k : Int)) = true := by simp; omega
            have HX2 := hid (heap_keep HX.out bA)
            have BX2 := hid (bstep BX.out bA)
            have hq := hid (show decG bs = (gz, 23) by
              rw [hd.out]
              obtain ⟨l0, l1, l2, l3, rfl⟩ := list4 h4'.out
              have : l0.t ≠ 0 ∨ l1.t ≠ 2 ∨ l2.t ≠ 4 ∨ l3.t ≠ 6 := by
                have hh := hl'.out
                have hc : k = 0 ∨ k = 1 ∨ k = 2 ∨ k = 3 := by omega
                rcases hc with rfl | rfl | rfl | rfl
                all_goals simp at hh
                all_goals subst hh
                all_goals omega
              exact if_pos this)
            clear ht bA
            have q1 := hid (setRow_heap _ R _ Z _ _ HX2.out)
            have qB := hid (below_setRow BX2.out HR.out Z)
            have qF := hid (FB 23 hq.out qB.out)
            go_wp2_with (refine wpList_store_row rfl _ _ _ rfl R Z rfl rfl _ _ HX2.out hi67.out rfl HO.out ?_)
            (try simp only [Exit.inBlock, Exit.then])
            refine bodyPost_ret (results_cell_tmp rfl _ _ R _ Z _ _ _ rfl rfl q1.out Tryd.underlying28 rfl hi67.out) rfl ?_
            exact qF.out
        · obtain rfl : k = 4 := by omega
          have hty' := hty.out
          obtain ⟨l0, l1, l2, l3, hll⟩ := list4 h4'.out
          subst hll
          have t0 := hty' 0 l0 (by decide) rfl
          have t1 := hty' 1 l1 (by decide) rfl
          have t2 := hty' 2 l2 (by decide) rfl
          have t3 := hty' 3 l3 (by decide) rfl
          obtain ⟨_, _, p0, _, c0, g0⟩ := RB.out.cells (j := 0) rfl
          obtain ⟨_, _, p1, _, c1', g1⟩ := RB.out.cells (j := 1) rfl
          obtain ⟨_, _, p2, _, c2, g2⟩ := RB.out.cells (j := 2) rfl
          obtain ⟨_, _, p3, _, c3, g3⟩ := RB.out.cells (j := 3) rfl
          simp only [Option.some.injEq, Addr.mk.injEq, and_true] at p0 p1 p2 p3
          obtain ⟨rfl, rfl⟩ := p0
          obtain ⟨rfl, rfl⟩ := p1
          obtain ⟨rfl, rfl⟩ := p2
          obtain ⟨rfl, rfl⟩ := p3
          have c0 : wr.cell? ⟨b, off + 1, none⟩ = some (.slice l0.a l0.v.length l0.c) := c0
          have c1' : wr.cell? ⟨b, off + 2 + 1, none⟩ = some (.slice l1.a l1.v.length l1.c) := c1'
          have c2 : wr.cell? ⟨b, off + 4 + 1, none⟩ = some (.slice l2.a l2.v.length l2.c) := c2
          have c3 : wr.cell? ⟨b, off + 6 + 1, none⟩ = some (.slice l3.a l3.v.length l3.c) := c3
          have hdF := hid (show decG bs = fourG l0.pr l1.pr l2.pr l3.pr from hd.out)
          have hnt := hid (show ¬ (l0.pr.1 ≠ 0 ∨ l1.pr.1 ≠ 2 ∨ l2.pr.1 ≠ 4 ∨ l3.pr.1 ≠ 6) by simp only [LR.pr]; omega)
          have hRw := hid (show R < wr.heap.size from (Array.getElem?_eq_some_iff.1 HX.out).1)
          clear hty' t0 t1 t2 t3 hty RB RC HX0 BX0 h4' hd hlt hb
          by_cases h32 : l2.v.length = 32
          · by_cases h1 : l3.v.length = 1
            · have hg2 : ¬ (l2.pr.2.length ≠ 32 ∨ l3.pr.2.length ≠ 1) := by simp only [LR.pr]; omega
              have G0 := hid (get_walk l0.a l0.v.length l0.c l0.v g0.2.2.1 wr g0.2.1)
              have hdE := hdF.out
              rw [fourG, if_neg hnt.out, if_neg hg2] at hdE
              simp only [LR.pr] at hdE
              obtain ⟨hx32, hxb, hu⟩ := getP_ok g0.2.2.1
              unfold GetRes at G0
              obtain ⟨x, u, er2, hp⟩ : ∃ x u e2, getP l0.v = (x, u, e2) := ⟨_, _, _, rfl⟩
              simp only [hp] at hx32 hxb hu hdE G0
              clear hp
              obtain ⟨b2, off2, ha2, _⟩ := g2.2.1.opened
              have ha2 := ha2 (by omega)
              obtain ⟨b3, off3, ha3, hc3⟩ := g3.2.1.opened
              have ha3 := ha3 (by omega)
              have f6 := hc3 0 (by omega)
              rw [Nat.add_zero] at f6
              rw [ha2, h32] at c2
              rw [ha3, h1] at c3
              have f5 := sl_range (b := b2) (off := off2) (by rw [← ha2]; exact g2.2.1) (by omega)
              have hdb : l3.v.getD 0 0 < 256 := getDltP g3.2.2.1 0
              have hdE' := hid hdE
              clear hdE hg2 hnt hdF hc3 ha2 ha3
              generalize l3.v.getD 0 0 = d at *
              have te : ((l2.v.length : Int) != 32) = false := by simp; omega
              have te2 : ((l3.v.length : Int) != 1) = false := by simp; omega
              have ed : IntKind.i64.wrap (d : Int) = (d : Int) := by simp [IntKind.wrap, IntKind.bits, IntKind.signed]; omega
              go_wp2_with fail
              refine G0.out.mono ?_
              rintro e w2 ⟨rfl, b2'⟩
              have HX2 := hid (heap_keep HX.out b2')
              have BX2 := hid (bstep BX.out b2')
              have k1 := cell_keep b2' c1'
              have k2 := cell_keep b2' c2
              have k3 := cell_keep b2' c3
              have k5 := range_keep b2' f5
              have k6 := cell_keep b2' f6
              have gd1 := hid (show Gen.good ⟨x, (u : Int), l1.v, l2.v, (d : Int)⟩ w2 l1.a l1.c from ⟨hx32, hxb, h32, g2.2.2.1, g1.2.2.1, g1.2.2.2, i64_wf (by show (-9223372036854775808 : Int) ≤ (u : Int); omega) (by show (u : Int) ≤ 9223372036854775807; omega), i64_wf (by show (-9223372036854775808 : Int) ≤ (d : Int); omega) (by show (d : Int) ≤ 9223372036854775807; omega), g1.2.1.below b2'⟩)
              have HBT := hid (built_gen ⟨x, (u : Int), l1.v, l2.v, (d : Int)⟩ l1.a l1.c hx32 h32)
              have hCl := Gen.len (g := ⟨x, (u : Int), l1.v, l2.v, (d : Int)⟩) l1.a l1.c hx32 h32
              have CW := fun wx => hid (check_walk ⟨x, (u : Int), l1.v, l2.v, (d : Int)⟩ l1.a l1.c hx32 h32 wx)
              have hC1 : ∀ v ∈ Gen.cells ⟨x, (u : Int), l1.v, l2.v, (d : Int)⟩ l1.a l1.c, v.oneCell' = true := Gen.one _ _ _
              have hi25 : (Tryd.prog.info? 25).map (·.size) = some (nums .u8 x ++ [Value.int .i64 (u : Int)]).length := by rw [List.length_append, nums_length, hx32]; exact infoPt
              have hi23 : (Tryd.prog.info? 23).map (·.size) = some (nums .u8 l2.v).length := by rw [nums_length, h32]; exact infoH
              have hP1 : ∀ v ∈ nums .u8 x ++ [Value.int .i64 (u : Int)], v.oneCell' = true := by
                intro v hv
                rcases List.mem_append.1 hv with hv | hv
                · exact nums_oneCell _ _ v hv
                · simp at hv; subst hv; rfl
              have hPl : (nums .u8 x ++ [Value.int .i64 (u : Int)]).length = 33 := by rw [List.length_append, nums_length, hx32]; rfl
              have un25 := Tryd.underlying25
              have un23 := Tryd.underlying23
              have rA := fun wx => run_arr32 wx (some ⟨b2, off2, none⟩) l2.c
              have hiC := hid (show (Tryd.prog.info? 28).map (·.size) = some (Gen.cells ⟨x, (u : Int), l1.v, l2.v, (d : Int)⟩ l1.a l1.c).toArray.size by rw [List.size_toArray, hCl]; exact infoGen)
              have hiCl := hid (show (Tryd.prog.info? 28).map (·.size) = some (Gen.cells ⟨x, (u : Int), l1.v, l2.v, (d : Int)⟩ l1.a l1.c).length by rw [hCl]; exact infoGen)
              have hzC := hid (show Z.size = (Gen.cells ⟨x, (u : Int), l1.v, l2.v, (d : Int)⟩ l1.a l1.c).toArray.size from hz67.out.trans (by rw [List.size_toArray, hCl]))
              have hoC := hid (all_oneCell_toArray hC1)
              unfold ptv
              generalize hCS : Gen.cells ⟨x, (u : Int), l1.v, l2.v, (d : Int)⟩ l1.a l1.c = CS at *
              simp only at HBT
              generalize nums .u8 x ++ [Value.int .i64 (u : Int)] = PL at *
              generalize nums .u8 l2.v = ML at *
              have hPi := hid (show (Tryd.prog.info? 25).map (·.size) = some PL.toArray.size by rw [List.size_toArray]; exact hi25)
              have hPz := hid (show zp.size = PL.toArray.size from (show zp.size = 33 from rfl).trans (by rw [List.size_toArray, hPl]))
              have hPo := hid (all_oneCell_toArray hP1)
              have A2 := hid (heap_alloc_new w2 (.cells zp 25))
              have L2 := laid w2 zp PL.toArray 25
              have HX3 := hid (heap_keep HX2.out L2.2)
              have BX3 := hid (bstep BX2.out L2.2)
              have f1 := row_range L2.1
              have f2 := cell_keep L2.2 k1
              have f3 := cell_keep L2.2 k2
              have f4 := cell_keep L2.2 k3
              have f5 := range_keep L2.2 k5
              have f6 := cell_keep L2.2 k6
              have gd2 := hid (gd1.out.below L2.2)
              clear k1 k2 k3 k5 k6 c0 c1' c2 c3 g0 g1 g2 g3 hC1 hP1 hPl hCl L2 HX BX HX2 BX2 gd1 b2' G0 hxb hu hdb h32 h1 hRw
              by_cases her : er2 = 0
              · subst her
                go_wp2_with (refine wpList_store_row rfl _ _ _ rfl w2.heap.size PL.toArray rfl rfl _ _ A2.out hPi.out hPz.out hPo.out ?_)
                show Code.wp _ _ _ _ ((w2.alloc (.cells zp 25)).setRow w2.heap.size PL.toArray)
                clear A2
                generalize (w2.alloc (.cells zp 25)).setRow w2.heap.size PL.toArray = w4 at *
                generalize w2.heap.size = G8 at *
                have keepS : ∀ X Y : World, Below X.heap.size X Y → (X.rangeAt G8 0 PL ∧ X.cell? ⟨b, off + 2 + 1, none⟩ = some (.slice l1.a l1.v.length l1.c) ∧ X.cell? ⟨b, off + 4 + 1, none⟩ = some (.slice (some ⟨b2, off2, none⟩) 32 l2.c) ∧ X.cell? ⟨b, off + 6 + 1, none⟩ = some (.slice (some ⟨b3, off3, none⟩) 1 l3.c) ∧ X.rangeAt b2 off2 ML ∧ X.cell? ⟨b3, off3, none⟩ = some (.int .u8 (d : Int))) → (Y.rangeAt G8 0 PL ∧ Y.cell? ⟨b, off + 2 + 1, none⟩ = some (.slice l1.a l1.v.length l1.c) ∧ Y.cell? ⟨b, off + 4 + 1, none⟩ = some (.slice (some ⟨b2, off2, none⟩) 32 l2.c) ∧ Y.cell? ⟨b, off + 6 + 1, none⟩ = some (.slice (some ⟨b3, off3, none⟩) 1 l3.c) ∧ Y.rangeAt b2 off2 ML ∧ Y.cell? ⟨b3, off3, none⟩ = some (.int .u8 (d : Int))) :=
                  fun X Y hb h => ⟨range_keep hb h.1, cell_keep hb h.2.1, cell_keep hb h.2.2.1, cell_keep hb h.2.2.2.1, range_keep hb h.2.2.2.2.1, cell_keep hb h.2.2.2.2.2⟩
                refine wp_region_held_drew (S := fun w' => w'.rangeAt G8 0 PL ∧ w'.cell? ⟨b, off + 2 + 1, none⟩ = some (.slice l1.a l1.v.length l1.c) ∧ w'.cell? ⟨b, off + 4 + 1, none⟩ = some (.slice (some ⟨b2, off2, none⟩) 32 l2.c) ∧ w'.cell? ⟨b, off + 6 + 1, none⟩ = some (.slice (some ⟨b3, off3, none⟩) 1 l3.c) ∧ w'.rangeAt b2 off2 ML ∧ w'.cell? ⟨b3, off3, none⟩ = some (.int .u8 (d : Int))) (by kernel_rfl) (⟨f1, f2, f3, f4, f5, f6⟩) (fun hHeld => ?_)
                try simp only [List.size_toArray, List.length_cons, List.length_nil, Nat.reduceAdd, Array.replicate_succ, Array.replicate_zero, List.push_toArray, List.nil_append, List.cons_append]
                refine' wpAnyH_take (i := 0) (oi := { dst := some 66, op := Op.load 25 (Operand.tmp 8), type := 25, pos := "asset.go:84", after := #[], guard := none }) (v := _) rfl (by kernel_rfl) (by kernel_rfl) (by kernel_rfl) (fun _ _ _ h => h) (yieldsIf_load_mid (by rfl) _ _ rfl G8 0 rfl PL _ (fun _ h => h.1) un25 rfl hi25) hHeld ?_
                (try simp only [Act.put, List.setIfInBounds_toArray, List.set_cons_zero, List.set_cons_succ])
                refine wpAnyH_take (i := 1) (oi := { dst := some 67, op := Op.move (Operand.tmp 4), type := 59, pos := "asset.go:84", after := #[], guard := none }) (v := ?v1) rfl (by kernel_rfl) (by kernel_rfl) (by kernel_rfl) (fun _ _ _ h => h) (Or.inl ⟨by rfl, ?hy1⟩) hHeld ?_
                case hy1 => (intro w hSw; (try dsimp only at hSw); go_simp; (try with_reducible rfl))
                (try simp only [Act.put, List.setIfInBounds_toArray, List.set_cons_zero, List.set_cons_succ])
                refine wpAnyH_take (i := 2) (oi := { dst := some 68, op := Op.indexAddr 59 (Operand.tmp 67) (Operand.const (Value.int IntKind.i64 1)), type := 0, pos := "asset.go:84", after := #[{ on := 1, ground := Ground.data }], guard := none }) (v := ?v2) rfl (by kernel_rfl) (by kernel_rfl) (by kernel_rfl) (fun _ _ _ h => h) (Or.inl ⟨by rfl, ?hy2⟩) hHeld ?_
                case hy2 => (intro w hSw; (try dsimp only at hSw); go_simp; (try with_reducible rfl))
                (try simp only [Act.put, List.setIfInBounds_toArray, List.set_cons_zero, List.set_cons_succ])
                refine wpAnyH_take (i := 3) (oi := { dst := some 69, op := Op.fieldAddr 58 (Operand.tmp 68) 1, type := 0, pos := "asset.go:84", after := #[{ on := 2, ground := Ground.data }], guard := none }) (v := ?v3) rfl (by kernel_rfl) (by kernel_rfl) (by kernel_rfl) (fun _ _ _ h => h) (Or.inl ⟨by rfl, ?hy3⟩) hHeld ?_
                case hy3 => (intro w hSw; (try dsimp only at hSw); go_simp; (try with_reducible rfl))
                (try simp only [Act.put, List.setIfInBounds_toArray, List.set_cons_zero, List.set_cons_succ])
                refine wpAnyH_take (i := 4) (oi := { dst := some 70, op := Op.load 26 (Operand.tmp 69), type := 26, pos := "asset.go:84", after := #[{ on := 3, ground := Ground.data }], guard := none }) (v := ?v4) rfl (by kernel_rfl) (by kernel_rfl) (by kernel_rfl) (fun _ _ _ h => h) (Or.inl ⟨by rfl, ?hy4⟩) hHeld ?_
                case hy4 => (intro w hSw; (try dsimp only at hSw); go_simp; (try with_reducible rfl))
                (try simp only [Act.put, List.setIfInBounds_toArray, List.set_cons_zero, List.set_cons_succ])
                refine wpAnyH_take (i := 5) (oi := { dst := some 71, op := Op.move (Operand.tmp 4), type := 59, pos := "asset.go:84", after := #[], guard := none }) (v := ?v5) rfl (by kernel_rfl) (by kernel_rfl) (by kernel_rfl) (fun _ _ _ h => h) (Or.inl ⟨by rfl, ?hy5⟩) hHeld ?_
                case hy5 => (intro w hSw; (try dsimp only at hSw); go_simp; (try with_reducible rfl))
                (try simp only [Act.put, List.setIfInBounds_toArray, List.set_cons_zero, List.set_cons_succ])
                refine wpAnyH_take (i := 6) (oi := { dst := some 72, op := Op.indexAddr 59 (Operand.tmp 71) (Operand.const (Value.int IntKind.i64 2)), type := 0, pos := "asset.go:84", after := #[{ on := 5, ground := Ground.data }], guard := none }) (v := ?v6) rfl (by kernel_rfl) (by kernel_rfl) (by kernel_rfl) (fun _ _ _ h => h) (Or.inl ⟨by rfl, ?hy6⟩) hHeld ?_
                case hy6 => (intro w hSw; (try dsimp only at hSw); go_simp; (try with_reducible rfl))
                (try simp only [Act.put, List.setIfInBounds_toArray, List.set_cons_zero, List.set_cons_succ])
                refine wpAnyH_take (i := 7) (oi := { dst := some 73, op := Op.fieldAddr 58 (Operand.tmp 72) 1, type := 0, pos := "asset.go:84", after := #[{ on := 6, ground := Ground.data }], guard := none }) (v := ?v7) rfl (by kernel_rfl) (by kernel_rfl) (by kernel_rfl) (fun _ _ _ h => h) (Or.inl ⟨by rfl, ?hy7⟩) hHeld ?_
                case hy7 => (intro w hSw; (try dsimp only at hSw); go_simp; (try with_reducible rfl))
                (try simp only [Act.put, List.setIfInBounds_toArray, List.set_cons_zero, List.set_cons_succ])
                refine wpAnyH_take (i := 8) (oi := { dst := some 74, op := Op.load 26 (Operand.tmp 73), type := 26, pos := "asset.go:84", after := #[{ on := 7, ground := Ground.data }], guard := none }) (v := ?v8) rfl (by kernel_rfl) (by kernel_rfl) (by kernel_rfl) (fun _ _ _ h => h) (Or.inl ⟨by rfl, ?hy8⟩) hHeld ?_
                case hy8 => (intro w hSw; (try dsimp only at hSw); go_simp; (try with_reducible rfl))
                (try simp only [Act.put, List.setIfInBounds_toArray, List.set_cons_zero, List.set_cons_succ])
                refine wpAnyH_take (i := 9) (oi := { dst := some 75, op := Op.sliceToArrayPointer 23 (Operand.tmp 74), type := 0, pos := "asset.go:84", after := #[{ on := 8, ground := Ground.data }], guard := none }) (v := ?v9) rfl (by kernel_rfl) (by kernel_rfl) (by kernel_rfl) (fun _ _ _ h => h) (Or.inl ⟨by rfl, ?hy9⟩) hHeld ?_
                case hy9 => (intro w hSw; (try dsimp only at hSw); go_simp; (try with_reducible rfl))
                (try simp only [Act.put, List.setIfInBounds_toArray, List.set_cons_zero, List.set_cons_succ])
                refine' wpAnyH_take (i := 10) (oi := { dst := some 76, op := Op.load 23 (Operand.tmp 75), type := 23, pos := "asset.go:84", after := #[{ on := 9, ground := Ground.data }], guard := none }) (v := _) rfl (by kernel_rfl) (by kernel_rfl) (by kernel_rfl) (fun _ _ _ h => h) (yieldsIf_load_mid (by rfl) _ _ rfl b2 off2 rfl ML _ (fun _ h => h.2.2.2.2.1) un23 rfl hi23) hHeld ?_
                (try simp only [Act.put, List.setIfInBounds_toArray, List.set_cons_zero, List.set_cons_succ])
                refine wpAnyH_take (i := 11) (oi := { dst := some 77, op := Op.move (Operand.tmp 4), type := 59, pos := "asset.go:84", after := #[], guard := none }) (v := ?v10) rfl (by kernel_rfl) (by kernel_rfl) (by kernel_rfl) (fun _ _ _ h => h) (Or.inl ⟨by rfl, ?hy10⟩) hHeld ?_
                case hy10 => (intro w hSw; (try dsimp only at hSw); go_simp; (try with_reducible rfl))
                (try simp only [Act.put, List.setIfInBounds_toArray, List.set_cons_zero, List.set_cons_succ])
                refine wpAnyH_take (i := 12) (oi := { dst := some 78, op := Op.indexAddr 59 (Operand.tmp 77) (Operand.const (Value.int IntKind.i64 3)), type := 0, pos := "asset.go:84", after := #[{ on := 11, ground := Ground.data }], guard := none }) (v := ?v11) rfl (by kernel_rfl) (by kernel_rfl) (by kernel_rfl) (fun _ _ _ h => h) (Or.inl ⟨by rfl, ?hy11⟩) hHeld ?_
                case hy11 => (intro w hSw; (try dsimp only at hSw); go_simp; (try with_reducible rfl))
                (try simp only [Act.put, List.setIfInBounds_toArray, List.set_cons_zero, List.set_cons_succ])
                refine wpAnyH_take (i := 13) (oi := { dst := some 79, op := Op.fieldAddr 58 (Operand.tmp 78) 1, type := 0, pos := "asset.go:84", after := #[{ on := 12, ground := Ground.data }], guard := none }) (v := ?v12) rfl (by kernel_rfl) (by kernel_rfl) (by kernel_rfl) (fun _ _ _ h => h) (Or.inl ⟨by rfl, ?hy12⟩) hHeld ?_
                case hy12 => (intro w hSw; (try dsimp only at hSw); go_simp; (try with_reducible rfl))
                (try simp only [Act.put, List.setIfInBounds_toArray, List.set_cons_zero, List.set_cons_succ])
                refine wpAnyH_take (i := 14) (oi := { dst := some 80, op := Op.load 26 (Operand.tmp 79), type := 26, pos := "asset.go:84", after := #[{ on := 13, ground := Ground.data }], guard := none }) (v := ?v13) rfl (by kernel_rfl) (by kernel_rfl) (by kernel_rfl) (fun _ _ _ h => h) (Or.inl ⟨by rfl, ?hy13⟩) hHeld ?_
                case hy13 => (intro w hSw; (try dsimp only at hSw); go_simp; (try with_reducible rfl))
                (try simp only [Act.put, List.setIfInBounds_toArray, List.set_cons_zero, List.set_cons_succ])
                refine wpAnyH_take (i := 15) (oi := { dst := some 81, op := Op.indexAddr 26 (Operand.tmp 80) (Operand.const (Value.int IntKind.i64 0)), type := 0, pos := "asset.go:84", after := #[{ on := 14, ground := Ground.data }], guard := none }) (v := ?v14) rfl (by kernel_rfl) (by kernel_rfl) (by kernel_rfl) (fun _ _ _ h => h) (Or.inl ⟨by rfl, ?hy14⟩) hHeld ?_
                case hy14 => (intro w hSw; (try dsimp only at hSw); go_simp; (try with_reducible rfl))
                (try simp only [Act.put, List.setIfInBounds_toArray, List.set_cons_zero, List.set_cons_succ])
                refine wpAnyH_take (i := 16) (oi := { dst := some 82, op := Op.load 5 (Operand.tmp 81), type := 5, pos := "asset.go:84", after := #[{ on := 15, ground := Ground.data }], guard := none }) (v := ?v15) rfl (by kernel_rfl) (by kernel_rfl) (by kernel_rfl) (fun _ _ _ h => h) (Or.inl ⟨by rfl, ?hy15⟩) hHeld ?_
                case hy15 => (intro w hSw; (try dsimp only at hSw); go_simp; (try with_reducible rfl))
                (try simp only [Act.put, List.setIfInBounds_toArray, List.set_cons_zero, List.set_cons_succ])
                refine wpAnyH_take (i := 17) (oi := { dst := some 83, op := Op.convert 5 3 (Operand.tmp 82), type := 3, pos := "asset.go:84", after := #[{ on := 16, ground := Ground.data }], guard := none }) (v := ?v16) rfl (by kernel_rfl) (by kernel_rfl) (by kernel_rfl) (fun _ _ _ h => h) (Or.inl ⟨by rfl, ?hy16⟩) hHeld ?_
                case hy16 => (intro w hSw; (try dsimp only at hSw); go_simp; (try with_reducible rfl))
                (try simp only [Act.put, List.setIfInBounds_toArray, List.set_cons_zero, List.set_cons_succ])
                refine wpAnyH_take (i := 18) (oi := { dst := some 84, op := Op.build 28 #[(0, Operand.tmp 66), (1, Operand.tmp 70), (2, Operand.tmp 76), (3, Operand.tmp 83)], type := 28, pos := "asset.go:84", after := #[{ on := 0, ground := Ground.data }, { on := 4, ground := Ground.data }, { on := 10, ground := Ground.data }, { on := 17, ground := Ground.data }], guard := none }) (v := .agg CS.toArray) rfl (by kernel_rfl) (by kernel_rfl) (by kernel_rfl) (fun _ _ _ h => h) (Or.inl ⟨by rfl, fun w _ => run_build4 rfl rfl rfl rfl rfl HBT.out⟩) hHeld ?_
                (try simp only [Act.put, List.setIfInBounds_toArray, List.set_cons_zero, List.set_cons_succ])
                refine wpAnyH_ready (rs := [19]) (by kernel_rfl) (by simp) ?_
                refine AllReadyH.cons (o := { dst := some 9, op := Op.alloc 28, type := 0, pos := "asset.go:84", after := #[], guard := none }) rfl (fun K hK => ?_) ?_
                go_simp; (first | refine newZ ?_ | refine newZd ?_); intro w5 h5 b5
                refine hK.out _ _ (keepS _ _ b5.out ⟨f1, f2, f3, f4, f5, f6⟩) (fun hHeld => ?_)
                clear hK K
                (try simp only [List.setIfInBounds_toArray, List.set_cons_zero, List.set_cons_succ])
                refine wpAnyH_ready (rs := [20]) (by kernel_rfl) (by simp) ?_
                refine AllReadyH.cons (o := { dst := none, op := Op.store 28 (Operand.tmp 9) (Operand.tmp 84), type := 0, pos := "asset.go:84", after := #[{ on := 19, ground := Ground.data }, { on := 18, ground := Ground.data }, { on := 0, ground := Ground.phase }, { on := 1, ground := Ground.phase }, { on := 2, ground := Ground.phase }, { on := 3, ground := Ground.phase }, { on := 4, ground := Ground.phase }, { on := 5, ground := Ground.phase }, { on := 6, ground := Ground.phase }, { on := 7, ground := Ground.phase }, { on := 8, ground := Ground.phase }, { on := 9, ground := Ground.phase }, { on := 10, ground := Ground.phase }, { on := 11, ground := Ground.phase }, { on := 12, ground := Ground.phase }, { on := 13, ground := Ground.phase }, { on := 14, ground := Ground.phase }, { on := 15, ground := Ground.phase }, { on := 16, ground := Ground.phase }, { on := 17, ground := Ground.phase }, { on := 18, ground := Ground.phase }, { on := 19, ground := Ground.phase }], guard := none }) rfl (fun K hK => ?_) ?_
                rw [if_pos (by rfl)]; refine wp_store_row _ _ _ rfl _ CS.toArray rfl rfl _ _ h5.out hiC.out hzC.out hoC.out ?_
                refine hK.out _ _ (keepS _ _ (below_setRow b5.out (Nat.le_refl _) _) ⟨f1, f2, f3, f4, f5, f6⟩) (fun hHeld => ?_)
                clear hK K
                (try simp only [List.setIfInBounds_toArray, List.set_cons_zero, List.set_cons_succ])
                refine wpAnyH_done (by kernel_rfl) ?_ _
                rotate_left
                exact AllReadyH.nil
                exact AllReadyH.nil
                have H9 := setRow_heap w5 w4.heap.size _ CS.toArray _ _ h5.out
                have L9 := below_setRow b5.out (Nat.le_refl _) CS.toArray
                have HX5 := hid (heap_keep HX3.out L9)
                have BX5 := hid (bstep BX3.out L9)
                have gd5 := gd2.out.below L9
                have r9 := row_range H9
                clear H9 L9 keepS hHeld h5 b5 f1 f2 f3 f4 f5 f6 HBT rA ed un25 un23 hi25 hi23
                generalize w5.setRow w4.heap.size CS.toArray = w7 at *
                generalize w4.heap.size = G9 at *
                go_wp2_with (refine wpList_load_mid rfl _ _ rfl G9 0 rfl CS _ r9 Tryd.underlying28 rfl hiCl.out ?_)
                refine (CW _).out.mono ?_
                rintro e w6 ⟨rfl, b6⟩
                have HX6 := hid (heap_keep HX5.out b6)
                have BX6 := hid (bstep BX5.out b6)
                have r6 := range_keep b6 r9
                have gd6 := gd5.below b6
                clear b6 r9 gd5 HX5 BX5 CW
                by_cases hck : Gen.check ⟨x, (u : Int), l1.v, l2.v, (d : Int)⟩ = 0
                · have q1 := hid (setRow_heap _ R _ CS.toArray _ _ HX6.out)
                  have qB := hid (below_setRow BX6.out HR.out CS.toArray)
                  have hq := hdE'.out
                  rw [if_neg (by decide), if_neg (fun h => h hck)] at hq
                  have gd8 : Gen.good ⟨x, (u : Int), l1.v, l2.v, (d : Int)⟩ (w6.setRow R CS.toArray) l1.a l1.c := ⟨gd6.tl, gd6.tb, gd6.ml, gd6.mb, gd6.nb, gd6.nl, gd6.ow, gd6.kw, Far.rd gd6.sl (far_row _ _ _) (HRB.out l1 (by simp))⟩
                  have QF := hid (show GDec w bs (.returned (.tuple #[.agg CS.toArray, .int .i64 0])) (w6.setRow R CS.toArray) from ⟨l1.a, l1.c, by rw [hq, hCS]; rfl, by rw [hq]; exact gd8, qB.out⟩)
                  rw [hck]
                  clear gd8 hq gd6 hck hdE'
                  go_wp2_with (first | refine wpList_load_mid rfl _ _ rfl G9 0 rfl CS _ r6 Tryd.underlying28 rfl hiCl.out ?_ | refine wpList_store_row rfl _ _ _ rfl R CS.toArray rfl rfl _ _ HX6.out hiC.out hzC.out hoC.out ?_)
                  (try simp only [Exit.inBlock, Exit.then])
                  refine bodyPost_ret (results_cell_tmp rfl _ _ R _ CS.toArray _ _ _ rfl rfl q1.out Tryd.underlying28 rfl hiC.out) rfl ?_
                  exact QF.out
                · have hq := hid (hdE'.out.trans (by rw [if_neg (by decide), if_pos hck]))
                  have te3 : ((Gen.check ⟨x, (u : Int), l1.v, l2.v, (d : Int)⟩ : Int) != 0) = true := by simp; omega
                  generalize Gen.check ⟨x, (u : Int), l1.v, l2.v, (d : Int)⟩ = er3 at *
                  clear hck hdE' gd6 r6
                  have q1 := hid (setRow_heap _ R _ Z _ _ HX6.out)
                  have qB := hid (below_setRow BX6.out HR.out Z)
                  have qF := hid (FB er3 hq.out qB.out)
                  go_wp2_with (refine wpList_store_row rfl _ _ _ rfl R Z rfl rfl _ _ HX6.out hi67.out rfl HO.out ?_)
                  (try simp only [Exit.inBlock, Exit.then])
                  refine bodyPost_ret (results_cell_tmp rfl _ _ R _ Z _ _ _ rfl rfl q1.out Tryd.underlying28 rfl hi67.out) rfl ?_
                  exact qF.out
              · have hq := hid (hdE'.out.trans (by rw [if_pos her]))
                have te3 : ((er2 : Int) != 0) = true := by simp; omega
                have q1 := hid (setRow_heap _ R _ Z _ _ HX3.out)
                have qB := hid (below_setRow BX3.out HR.out Z)
                have qF := hid (FB er2 hq.out qB.out)
                clear her hdE' f1 f2 f3 f4 f5 f6 HBT CW
                go_wp2_with (first | refine wpList_store_row rfl _ _ _ rfl w2.heap.size PL.toArray rfl rfl _ _ A2.out hPi.out hPz.out hPo.out ?_ | refine wpList_store_row rfl _ _ _ rfl R Z rfl rfl _ _ HX3.out hi67.out rfl HO.out ?_)
                (try simp only [Exit.inBlock, Exit.then])
                refine bodyPost_ret (results_cell_tmp rfl _ _ R _ Z _ _ _ rfl rfl q1.out Tryd.underlying28 rfl hi67.out) rfl ?_
                exact qF.out
            · have hq := hid (show decG bs = (gz, 21) by rw [hdF.out, fourG, if_neg hnt.out, if_pos (.inr h1)])
              have te : ((l2.v.length : Int) != 32) = false := by simp; omega
              have te2 : ((l3.v.length : Int) != 1) = true := by simp; omega
              clear h32 h1
              have q1 := hid (setRow_heap _ R _ Z _ _ HX.out)
              have qB := hid (below_setRow BX.out HR.out Z)
              have qF := hid (FB 21 hq.out qB.out)
              go_wp2_with (refine wpList_store_row rfl _ _ _ rfl R Z rfl rfl _ _ HX.out hi67.out rfl HO.out ?_)
              (try simp only [Exit.inBlock, Exit.then])
              refine bodyPost_ret (results_cell_tmp rfl _ _ R _ Z _ _ _ rfl rfl q1.out Tryd.underlying28 rfl hi67.out) rfl ?_
              exact qF.out
          · have hq := hid (show decG bs = (gz, 21) by rw [hdF.out, fourG, if_neg hnt.out, if_pos (.inl h32)])
            have te : ((l2.v.length : Int) != 32) = true := by simp; omega
            clear h32
            have q1 := hid (setRow_heap _ R _ Z _ _ HX.out)
            have qB := hid (below_setRow BX.out HR.out Z)
            have qF := hid (FB 21 hq.out qB.out)
            go_wp2_with (refine wpList_store_row rfl _ _ _ rfl R Z rfl rfl _ _ HX.out hi67.out rfl HO.out ?_)
            (try simp only [Exit.inBlock, Exit.then])
            refine bodyPost_ret (results_cell_tmp rfl _ _ R _ Z _ _ _ rfl rfl q1.out Tryd.underlying28 rfl hi67.out) rfl ?_
            exact qF.out
    · have hq := hid (show decG bs = (gz, 21) by rw [hdG]; exact recsG_len (by rw [List.length_map]; exact h4))
      have te : ((ls.length : Int) != 4) = true := by simp; omega
      clear h4
      have q1 := hid (setRow_heap _ R _ Z _ _ HX.out)
      have qB := hid (below_setRow BX.out HR.out Z)
      have qF := hid (FB 21 hq.out qB.out)
      go_wp2_with (refine wpList_store_row rfl _ _ _ rfl R Z rfl rfl _ _ HX.out hi67.out rfl HO.out ?_)
      (try simp only [Exit.inBlock, Exit.then])
      refine bodyPost_ret (results_cell_tmp rfl _ _ R _ Z _ _ _ rfl rfl q1.out Tryd.underlying28 rfl hi67.out) rfl ?_
      exact qF.out
  · have hq := hid (show decG bs = (gz, (decS bs).2) by unfold decG; rw [if_pos he])
    have te : (((decS bs).2 : Int) != 0) = true := by simp; omega
    generalize (decS bs).2 = er at *
    clear he
    have q1 := hid (setRow_heap _ R _ Z _ _ HX.out)
    have qB := hid (below_setRow BX.out HR.out Z)
    have qF := hid (FB er hq.out qB.out)
    go_wp2_with (refine wpList_store_row rfl _ _ _ rfl R Z rfl rfl _ _ HX.out hi67.out rfl HO.out ?_)
    (try simp only [Exit.inBlock, Exit.then])
    refine bodyPost_ret (results_cell_tmp rfl _ _ R _ Z _ _ _ rfl rfl q1.out Tryd.underlying28 rfl hi67.out) rfl ?_
    exact qF.out
end Go.Proofs.YtgaidleepjkldaaDoor
