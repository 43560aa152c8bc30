/- The walk of the reference's Decode. -/
import Derived.Test.YtnophelfpoldfaaGreatDoorGDec
import Derived.Test.YtnophelfpoldfaaGreatDoorDecRA
import Derived.Test.YtnophelfpoldfaaGreatDoorGStp
namespace Go.Proofs.YtnophelfpoldfaaGreatDoor
open Go.RowKit

theorem RG.below {w w' : World} {B : Nat} {v : Value} {l : LR} (h : RG w B v l) (hb : Below w.heap.size w w') : RG w' B v l := ⟨h.1, h.2.1.below hb, h.2.2.1, own_below h.2.2.2 hb⟩
def RRel (w0 : World) (n : Nat) (bs0 : List Nat) (e : TypeId) (x4 x5 : Value) (wr : World) : Prop :=
  ∃ (k : Nat) (v : Value) (ls : List LR), v = x4 ∧ x5 = .int .i64 k ∧ k ≤ n ∧ wr.ownsRow w0.heap.size e 2 v ls.length (ls.flatMap LR.cells) ∧ (∀ l ∈ ls, RG wr w0.heap.size v l) ∧ Below w0.heap.size w0 wr ∧ ls.length ≤ 256 ∧
    Hid (decS bs0 = comb ls (decGo ((bs0.drop k).length + 1) (lastT ls) ls.length (bs0.drop k)))
set_option maxRecDepth 100000 in
set_option maxHeartbeats 4000000 in
theorem rdec_walk (a : Option Addr) (n cap : Nat) (bs : List Nat) (hbs : ∀ d ∈ bs, d < 256) (hn : n ≤ 140737488351232) (w : World) (h : Sl .u8 w a n cap bs) :
    Calls Tryz.prog 32 #[.slice a n cap] w (DecRes2 77 w bs) := by
  have HL := hid h.len
  have HI := hid h
  have HX := hid hbs
  have hcap := h.2.1
  have O0 := hid (World.ownsRow_made (base := w.heap.size) (e := 77) (size := 2) w #[] 0 (Nat.le_refl _) (by simp) (by simp))
  clear h hbs
  go_enter Tryz.func32, Tryz.ntmps32
  go_wp2
  go_loopw [4, 5] (fun x4 x5 wr => RRel w n bs 77 x4 x5 wr) (fun _ x5 _ => n - (intOf x5).toNat)
  case atStart => exact ⟨0, _, [], rfl, rfl, by omega, O0.out, by simp, (Below.refl _ _).alloc (Nat.le_refl _) _, by simp, hid (by rw [List.drop_zero]; exact dec_init bs)⟩
  case round =>
    obtain ⟨k, v, ls, rfl, rfl, hk, hown, hg, hb, hl, hd⟩ := hrel
    clear O0
    by_cases hkn : k < n
    · obtain ⟨bk, off, ha, _⟩ := HI.out.opened
      obtain rfl := ha (by omega)
      clear ha
      have HO := hid hown
      have HG := hid hg
      have HB := hid hb
      have hX1 : ∀ d ∈ bs.drop k, d < 256 := fun d hd => HX.out d (List.mem_of_mem_drop hd)
      have hlx : (bs.drop k).length = n - k := by rw [List.length_drop, HL.out]
      have h0' := hid (show bs.drop k ≠ [] by intro h; rw [h] at hlx; simp at hlx; omega)
      have HX1 := hid hX1
      have HLX := hid hlx
      have HD := hd
      have BAD := hid (fun (z : Nat) (e : decGo ((bs.drop k).length + 1) (lastT ls) ls.length (bs.drop k) = ([], z)) (h0 : z ≠ 0) w' (hb : Below w.heap.size w w') => DecRes2.bad (et := 77) (w' := w') hd.out e h0 hb)
      obtain ⟨⟨t, m, er⟩, hR⟩ : ∃ R, readS (bs.drop k) = R := ⟨_, rfl⟩
      have HR := hid hR
      have hnil : ls.length = 0 → ls = [] := List.eq_nil_of_length_eq_zero
      clear hX1 hlx hd hR hown hg hb
      go_wp2_with (refine wpList_dropS rfl _ _ rfl HI.out rfl (.inl rfl) hk ?_)
      intro b1 o1 s1
      have D1 := hid s1
      clear s1
      have C1 := hid (rread_walk (some ⟨b1, o1, none⟩) (n - k) (cap - k) (bs.drop k) HX1.out (by omega) wr (D1.out.below HB.out))
      go_wp2_with fail
      refine C1.out.mono ?_
      rintro e w1 ⟨rfl, q1⟩
      rw [HR.out, RdV3]
      have HB1 := hid (bstep HB.out q1)
      have HO1 := hid (own_below HO.out q1)
      have HG1 := hid (fun l hl => (HG.out l hl).below q1)
      clear C1 q1 HO HG D1
      by_cases he : er = 0
      · subst he
        have hm := readS_len (bs := bs.drop k) (by rw [HR.out])
        rw [HR.out, HLX.out] at hm
        have hm1 : 1 ≤ m := hm.1
        have hm2 : m ≤ n - k := hm.2
        clear hm
        rcases Nat.eq_zero_or_pos ls.length with hl0 | hl0
        · obtain rfl := hnil hl0
          obtain ⟨a4, c4, rfl, r4⟩ := Rd.of_owns HO1.out
          have HP := hid (show ¬ (lastT ([] : List LR)).any (fun q => decide (t ≤ q)) = true by simp [lastT])
          have hlt : ([] : List LR).length < 256 := by decide
          clear r4 hl0 hnil
          obtain ⟨k1, hk1⟩ : ∃ k1 : Nat, k1 = k + m := ⟨_, rfl⟩
          have e1 : ((k : Int) + (m : Int)) = (k1 : Int) := by omega
          have hk1n : k1 ≤ n := by omega
          have HDD := hid (show (bs.drop k).drop m = bs.drop k1 by rw [List.drop_drop, hk1])
          obtain ⟨⟨sz, m2, e2⟩, hR2⟩ : ∃ R, readS (bs.drop k1) = R := ⟨_, rfl⟩
          have HR2 := hid hR2
          have HS2 := hid (show readS ((bs.drop k).drop m) = (sz, m2, e2) by rw [HDD.out]; exact hR2)
          have HLX1 := hid (show (bs.drop k1).length = n - k1 by rw [List.length_drop, HL.out])
          have HX2 := hid (show ∀ d ∈ bs.drop k1, d < 256 from fun d hd => HX.out d (List.mem_of_mem_drop hd))
          have HK1 := hid hk1
          have hkk1 : k ≤ k1 := by omega
          clear hR2 hk1
          go_wp2_with (refine wpList_dropS rfl _ _ rfl HI.out rfl (.inl rfl) hk1n ?_)
          intro b2 o2 s2
          have D2 := hid s2
          clear s2
          have C2 := hid (rread_walk (some ⟨b2, o2, none⟩) (n - k1) (cap - k1) (bs.drop k1) HX2.out (by omega) w1 (D2.out.below HB1.out))
          go_wp2_with fail
          refine C2.out.mono ?_
          rintro e w2 ⟨rfl, q2⟩
          rw [HR2.out, RdV3]
          have HB2 := hid (bstep HB1.out q2)
          have HO2 := hid (own_below HO1.out q2)
          have HG2 := hid (fun l hl => (HG1.out l hl).below q2)
          clear C2 q2 HO1 HG1 D2 e1
          by_cases he2 : e2 = 0
          · subst he2
            have hm := readS_len (bs := bs.drop k1) (by rw [HR2.out])
            rw [HR2.out, HLX1.out] at hm
            have hm21 : 1 ≤ m2 := hm.1
            have hm22 : m2 ≤ n - k1 := hm.2
            clear hm
            obtain ⟨k2, hk2⟩ : ∃ k2 : Nat, k2 = k1 + m2 := ⟨_, rfl⟩
            have e2 : ((k1 : Int) + (m2 : Int)) = (k2 : Int) := by omega
            have hk2n : k2 ≤ n := by omega
            have hkk2 : k1 < k2 := by omega
            have HDD2 := hid (show ((bs.drop k).drop m).drop m2 = bs.drop k2 by rw [HDD.out, List.drop_drop, hk2])
            have HLX2 := hid (show (bs.drop k2).length = n - k2 by rw [List.length_drop, HL.out])
            have HK2 := hid hk2
            clear hk2
            by_cases q1 : 65536 < sz
            · have tq1 : decide ((sz : Int) > 65536) = true := by rw [decide_eq_true_eq]; omega
              have F := hid (BAD.out 3 (dec_e4 h0'.out HR.out HP.out HS2.out q1) (by decide) _ HB2.out)
              clear BAD HD
              go_wp2
              go_ret2
              exact F.out
            · have tq1 : decide ((sz : Int) > 65536) = false := by rw [decide_eq_false_iff_not]; omega
              have hwr : IntKind.i64.wrap (sz : Int) = (sz : Int) := by
                simp [IntKind.wrap, IntKind.signed, IntKind.bits]; omega
              obtain ⟨r, hr⟩ : ∃ r : Nat, r = n - k2 := ⟨_, rfl⟩
              have e3 : ((n : Int) - (k2 : Int)) = (r : Int) := by omega
              have HRR := hid hr
              by_cases q2 : r < sz
              · have tq2 : decide (r < sz) = true := by rw [decide_eq_true_eq]; omega
                have tq2' : decide ((sz : Int) > (r : Int)) = true := by rw [decide_eq_true_eq]; omega
                have HQ2 := hid (show (((bs.drop k).drop m).drop m2).length < sz by rw [HDD2.out, HLX2.out]; omega)
                have F := hid (BAD.out 20 (dec_e5 h0'.out HR.out HP.out HS2.out q1 HQ2.out) (by decide) _ HB2.out)
                clear BAD HD hr
                go_wp2
                go_ret2
                exact F.out
              · have tq2 : decide (r < sz) = false := by rw [decide_eq_false_iff_not]; omega
                have tq2' : decide ((sz : Int) > (r : Int)) = false := by rw [decide_eq_false_iff_not]; omega
                have HQ2 := hid (show ¬ (((bs.drop k).drop m).drop m2).length < sz by rw [HDD2.out, HLX2.out]; omega)
                obtain ⟨k3, hk3⟩ : ∃ k3 : Nat, k3 = k2 + sz := ⟨_, rfl⟩
                have e4 : ((k2 : Int) + (sz : Int)) = (k3 : Int) := by omega
                have hk3n : k3 ≤ n := by omega
                have hk23 : k2 ≤ k3 := by omega
                have hks : k3 - k2 = sz := by omega
                have HKS := hid hks
                have HDD3 := hid (show (bs.drop k2).drop sz = bs.drop k3 by rw [List.drop_drop, hk3])
                have NX := hid (fun (l : LR) (hl : l.pr = (t, (((bs.drop k).drop m).drop m2).take sz)) => dec_next h0'.out HR.out HP.out HS2.out q1 HQ2.out (by omega) hl)
                rw [HDD2.out] at NX
                have HZ := hid (show ((bs.drop k2).take sz).length = sz by rw [List.length_take, HLX2.out]; omega)
                have HX3 := hid (show ∀ d ∈ (bs.drop k2).take sz, d < 256 from fun d hd => HX.out d (List.mem_of_mem_drop (List.mem_of_mem_take hd)))
                have ht64 := hid (readS_lt HR.out HX1.out)
                have hszb : sz ≤ 65536 := by omega
                have hkm : k < k3 := by omega
                have OE := hid (World.ownsRow_made (base := w2.heap.size) (e := 5) (size := 1) w2 #[] 0 (Nat.le_refl _) (by simp) (by simp))
                have be := hid ((Below.refl w2.heap.size w2).alloc (Nat.le_refl _) (.cells #[] 5))
                clear BAD q1 q2 hr hk3 hks
                go_wp2_with (refine wpList_cutS rfl _ _ _ rfl HI.out rfl rfl rfl hk23 hk3n ?_)
                intro b3 o3 s3
                rw [HKS.out] at s3 ⊢
                have S4 := hid (s3.below (HB2.out.trans (be.out.mono HB2.out.size)))
                clear s3
                go_wp2_with (at_builtin; refine wpList_cat rfl _ _ 22 rfl tyBs w2.heap.size OE.out rfl rfl S4.out (nums_oneCell _ _) ?CC1 ?CC2 ?CC3 ?_)
                case CC1 => omega
                case CC2 => unfold maxLen; omega
                case CC3 => simp
                intro v2 w3 own3 hb3 hs3 _
                obtain ⟨a2', c2', rfl, r2'⟩ := Rd.of_owns own3
                have OW3 := hid (show w3.ownsRow w2.heap.size 5 1 (.slice a2' sz c2') sz (nums .u8 ((bs.drop k2).take sz)) by simpa using own3)
                have BW3 := hid (be.out.trans hb3)
                clear own3 hb3 r2' S4 OE hs3
                generalize (bs.drop k2).take sz = ys at *
                have O3 := hid (own_below (own_below HO2.out BW3.out) ((Below.refl w3.heap.size w3).alloc (Nat.le_refl _) (.cells #[.int .u64 (t : Int), .slice a2' sz c2'] 77)))
                go_wp2_with (at_builtin; refine wpList_pushG rfl _ _ 73 rfl tyRec2 w.heap.size O3.out rfl w3.heap.size rfl rfl rfl rfl (by omega) (by decide) (Nat.le_trans HB2.out.size BW3.out.size) ?_)
                intro v4 w4 own4 hg4 hv4
                have MEM := hid (dec_mem HZ.out HO2.out (by decide) HG2.out HB2.out OW3.out BW3.out ht64.out HX3.out (by omega) own4 hg4 (by simpa using hv4))
                clear own4 hg4 hv4 O3
                go_wp2
                go_roundw
                case rel => exact ⟨k3, v4, _, rfl, rfl, hk3n, MEM.out.1, MEM.out.2.1, MEM.out.2.2, by rw [List.length_append, List.length_singleton]; omega, hid (by rw [HD.out, NX.out ⟨t, a2', c2', ys⟩ rfl, HDD3.out])⟩
                case measure => simp [intOf]; omega
          · have F := hid (BAD.out e2 (dec_e3 h0'.out HR.out HP.out HS2.out he2) he2 _ HB2.out)
            have te2 : ((e2 : Int) != 0) = true := by simp; omega
            clear BAD HD
            go_wp2
            go_ret2
            exact F.out
        · obtain ⟨j, hj⟩ : ∃ j, ls.length = j + 1 := ⟨ls.length - 1, by omega⟩
          obtain ⟨g, c4, lt, rfl, hc4, hlast, hcell⟩ := own_last HO1.out hj
          have hany : (lastT ls).any (fun q => decide (t ≤ q)) = decide (t ≤ lt) := by unfold lastT; rw [hlast]; rfl
          have ej : (((j + 1 : Nat) : Int) - 1) = (j : Int) := by omega
          have tj : decide (0 < j + 1) = true := by simp
          have hj256 : j + 1 ≤ 256 := by omega
          have HJ := hid hj
          clear hlast hj hl hl0 hnil
          by_cases ho : t ≤ lt
          · have to : decide (t ≤ lt) = true := decide_eq_true ho
            have to2 : decide (lt ≥ t) = true := decide_eq_true ho
            have F := hid (BAD.out 22 (dec_e2 h0'.out HR.out (by rw [hany]; exact to)) (by decide) _ HB1.out)
            clear BAD HD hany ho
            go_wp2
            go_ret2
            exact F.out
          · have to : decide (t ≤ lt) = false := decide_eq_false ho
            have to2 : decide (lt ≥ t) = false := decide_eq_false ho
            have HP := hid (show ¬ (lastT ls).any (fun q => decide (t ≤ q)) = true by rw [hany, to]; simp)
            clear hany ho
            obtain ⟨k1, hk1⟩ : ∃ k1 : Nat, k1 = k + m := ⟨_, rfl⟩
            have e1 : ((k : Int) + (m : Int)) = (k1 : Int) := by omega
            have hk1n : k1 ≤ n := by omega
            have HDD := hid (show (bs.drop k).drop m = bs.drop k1 by rw [List.drop_drop, hk1])
            obtain ⟨⟨sz, m2, e2⟩, hR2⟩ : ∃ R, readS (bs.drop k1) = R := ⟨_, rfl⟩
            have HR2 := hid hR2
            have HS2 := hid (show readS ((bs.drop k).drop m) = (sz, m2, e2) by rw [HDD.out]; exact hR2)
            have HLX1 := hid (show (bs.drop k1).length = n - k1 by rw [List.length_drop, HL.out])
            have HX2 := hid (show ∀ d ∈ bs.drop k1, d < 256 from fun d hd => HX.out d (List.mem_of_mem_drop hd))
            have HK1 := hid hk1
            have hkk1 : k ≤ k1 := by omega
            clear hR2 hk1
            go_wp2_with (refine wpList_dropS rfl _ _ rfl HI.out rfl (.inl rfl) hk1n ?_)
            intro b2 o2 s2
            have D2 := hid s2
            clear s2
            have C2 := hid (rread_walk (some ⟨b2, o2, none⟩) (n - k1) (cap - k1) (bs.drop k1) HX2.out (by omega) w1 (D2.out.below HB1.out))
            go_wp2_with fail
            refine C2.out.mono ?_
            rintro e w2 ⟨rfl, q2⟩
            rw [HR2.out, RdV3]
            have HB2 := hid (bstep HB1.out q2)
            have HO2 := hid (own_below HO1.out q2)
            have HG2 := hid (fun l hl => (HG1.out l hl).below q2)
            clear C2 q2 HO1 HG1 D2 e1
            by_cases he2 : e2 = 0
            · subst he2
              have hm := readS_len (bs := bs.drop k1) (by rw [HR2.out])
              rw [HR2.out, HLX1.out] at hm
              have hm21 : 1 ≤ m2 := hm.1
              have hm22 : m2 ≤ n - k1 := hm.2
              clear hm
              obtain ⟨k2, hk2⟩ : ∃ k2 : Nat, k2 = k1 + m2 := ⟨_, rfl⟩
              have e2 : ((k1 : Int) + (m2 : Int)) = (k2 : Int) := by omega
              have hk2n : k2 ≤ n := by omega
              have hkk2 : k1 < k2 := by omega
              have HDD2 := hid (show ((bs.drop k).drop m).drop m2 = bs.drop k2 by rw [HDD.out, List.drop_drop, hk2])
              have HLX2 := hid (show (bs.drop k2).length = n - k2 by rw [List.length_drop, HL.out])
              have HK2 := hid hk2
              clear hk2
              by_cases q1 : 65536 < sz
              · have tq1 : decide ((sz : Int) > 65536) = true := by rw [decide_eq_true_eq]; omega
                have F := hid (BAD.out 3 (dec_e4 h0'.out HR.out HP.out HS2.out q1) (by decide) _ HB2.out)
                clear BAD HD
                go_wp2
                go_ret2
                exact F.out
              · have tq1 : decide ((sz : Int) > 65536) = false := by rw [decide_eq_false_iff_not]; omega
                have hwr : IntKind.i64.wrap (sz : Int) = (sz : Int) := by
                  simp [IntKind.wrap, IntKind.signed, IntKind.bits]; omega
                obtain ⟨r, hr⟩ : ∃ r : Nat, r = n - k2 := ⟨_, rfl⟩
                have e3 : ((n : Int) - (k2 : Int)) = (r : Int) := by omega
                have HRR := hid hr
                by_cases q2 : r < sz
                · have tq2 : decide (r < sz) = true := by rw [decide_eq_true_eq]; omega
                  have tq2' : decide ((sz : Int) > (r : Int)) = true := by rw [decide_eq_true_eq]; omega
                  have HQ2 := hid (show (((bs.drop k).drop m).drop m2).length < sz by rw [HDD2.out, HLX2.out]; omega)
                  have F := hid (BAD.out 20 (dec_e5 h0'.out HR.out HP.out HS2.out q1 HQ2.out) (by decide) _ HB2.out)
                  clear BAD HD hr
                  go_wp2
                  go_ret2
                  exact F.out
                · have tq2 : decide (r < sz) = false := by rw [decide_eq_false_iff_not]; omega
                  have tq2' : decide ((sz : Int) > (r : Int)) = false := by rw [decide_eq_false_iff_not]; omega
                  have HQ2 := hid (show ¬ (((bs.drop k).drop m).drop m2).length < sz by rw [HDD2.out, HLX2.out]; omega)
                  by_cases q3 : 256 ≤ j + 1
                  · have tq3 : decide (j + 1 ≥ 256) = true := decide_eq_true q3
                    have tq3' : decide (((j + 1 : Nat) : Int) ≥ 256) = true := by rw [decide_eq_true_eq]; omega
                    have F := hid (BAD.out 4 (dec_e6 h0'.out HR.out HP.out HS2.out q1 HQ2.out (by rw [HJ.out]; exact q3)) (by decide) _ HB2.out)
                    clear BAD HD hr
                    go_wp2
                    go_ret2
                    exact F.out
                  · have tq3 : decide (j + 1 ≥ 256) = false := decide_eq_false q3
                    have tq3' : decide (((j + 1 : Nat) : Int) ≥ 256) = false := by rw [decide_eq_false_iff_not]; omega
                    have hlt : ls.length < 256 := by rw [HJ.out]; omega
                    obtain ⟨k3, hk3⟩ : ∃ k3 : Nat, k3 = k2 + sz := ⟨_, rfl⟩
                    have e4 : ((k2 : Int) + (sz : Int)) = (k3 : Int) := by omega
                    have hk3n : k3 ≤ n := by omega
                    have hk23 : k2 ≤ k3 := by omega
                    have hks : k3 - k2 = sz := by omega
                    have HKS := hid hks
                    have HDD3 := hid (show (bs.drop k2).drop sz = bs.drop k3 by rw [List.drop_drop, hk3])
                    have NX := hid (fun (l : LR) (hl : l.pr = (t, (((bs.drop k).drop m).drop m2).take sz)) => dec_next h0'.out HR.out HP.out HS2.out q1 HQ2.out (by omega) hl)
                    rw [HDD2.out] at NX
                    have HZ := hid (show ((bs.drop k2).take sz).length = sz by rw [List.length_take, HLX2.out]; omega)
                    have HX3 := hid (show ∀ d ∈ (bs.drop k2).take sz, d < 256 from fun d hd => HX.out d (List.mem_of_mem_drop (List.mem_of_mem_take hd)))
                    have ht64 := hid (readS_lt HR.out HX1.out)
                    have hszb : sz ≤ 65536 := by omega
                    have hkm : k < k3 := by omega
                    have OE := hid (World.ownsRow_made (base := w2.heap.size) (e := 5) (size := 1) w2 #[] 0 (Nat.le_refl _) (by simp) (by simp))
                    have be := hid ((Below.refl w2.heap.size w2).alloc (Nat.le_refl _) (.cells #[] 5))
                    clear BAD q1 q2 hr hk3 hks
                    go_wp2_with (refine wpList_cutS rfl _ _ _ rfl HI.out rfl rfl rfl hk23 hk3n ?_)
                    intro b3 o3 s3
                    rw [HKS.out] at s3 ⊢
                    have S4 := hid (s3.below (HB2.out.trans (be.out.mono HB2.out.size)))
                    clear s3
                    go_wp2_with (at_builtin; refine wpList_cat rfl _ _ 22 rfl tyBs w2.heap.size OE.out rfl rfl S4.out (nums_oneCell _ _) ?CC1 ?CC2 ?CC3 ?_)
                    case CC1 => omega
                    case CC2 => unfold maxLen; omega
                    case CC3 => simp
                    intro v2 w3 own3 hb3 hs3 _
                    obtain ⟨a2', c2', rfl, r2'⟩ := Rd.of_owns own3
                    have OW3 := hid (show w3.ownsRow w2.heap.size 5 1 (.slice a2' sz c2') sz (nums .u8 ((bs.drop k2).take sz)) by simpa using own3)
                    have BW3 := hid (be.out.trans hb3)
                    clear own3 hb3 r2' S4 OE hs3
                    generalize (bs.drop k2).take sz = ys at *
                    have O3 := hid (own_below (own_below HO2.out BW3.out) ((Below.refl w3.heap.size w3).alloc (Nat.le_refl _) (.cells #[.int .u64 (t : Int), .slice a2' sz c2'] 77)))
                    go_wp2_with (at_builtin; refine wpList_pushG rfl _ _ 73 rfl tyRec2 w.heap.size O3.out rfl w3.heap.size rfl rfl rfl rfl (by omega) (by decide) (Nat.le_trans HB2.out.size BW3.out.size) ?_)
                    intro v4 w4 own4 hg4 hv4
                    have MEM := hid (dec_mem HZ.out HO2.out (by decide) HG2.out HB2.out OW3.out BW3.out ht64.out HX3.out (by omega) own4 hg4 (by simpa using hv4))
                    clear own4 hg4 hv4 O3
                    go_wp2
                    go_roundw
                    case rel => exact ⟨k3, v4, _, rfl, rfl, hk3n, MEM.out.1, MEM.out.2.1, MEM.out.2.2, by rw [List.length_append, List.length_singleton]; omega, hid (by rw [HD.out, NX.out ⟨t, a2', c2', ys⟩ rfl, HDD3.out])⟩
                    case measure => simp [intOf]; omega
            · have F := hid (BAD.out e2 (dec_e3 h0'.out HR.out HP.out HS2.out he2) he2 _ HB2.out)
              have te2 : ((e2 : Int) != 0) = true := by simp; omega
              clear BAD HD
              go_wp2
              go_ret2
              exact F.out
      · have te : ((er : Int) != 0) = true := by simp; omega
        have F := hid (BAD.out er (dec_e1 h0'.out HR.out he) he _ HB1.out)
        clear BAD HD
        go_wp2
        go_ret2
        exact F.out
    · obtain rfl : k = n := by omega
      have e0 : bs.drop k = [] := List.drop_eq_nil_of_le (by rw [HL.out]; exact Nat.le_refl _)
      have e : decS bs = (ls.map LR.pr, 0) := by rw [hd.out, e0]; simp [decGo, comb]
      obtain ⟨a4, c4, rfl, r4⟩ := Rd.of_owns hown
      have F := hid (show DecRes2 77 w bs (.returned (.tuple #[.slice a4 ls.length c4, .int .i64 0])) wr from ⟨_, ls, by rw [e]; rfl, ⟨a4, c4, rfl, r4, rfl, fun l hl => ⟨(hg l hl).1, (hg l hl).2.1.1, (hg l hl).2.2.1⟩⟩, by rw [e], hl, hb, hown, fun l hl => (hg l hl).2.2.2⟩)
      clear hd e hg hown r4 e0
      go_wp2
      go_ret2
      exact F.out
end Go.Proofs.YtnophelfpoldfaaGreatDoor
