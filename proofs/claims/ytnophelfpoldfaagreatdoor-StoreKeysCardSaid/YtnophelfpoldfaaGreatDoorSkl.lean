/- StoreKeys: which keys begin so, rising. -/
import Derived.Test.YtnophelfpoldfaaGreatDoorSkb
import Derived.Test.YtnophelfpoldfaaGreatDoorStn
namespace Go.Proofs.YtnophelfpoldfaaGreatDoor
open Go.RowKit

theorem pre_u8 {p k : List Nat} (hp : ∀ d ∈ p, d < 256) (hk : ∀ d ∈ k, d < 256) : (u8k p).isPrefixOf (u8k k) = p.isPrefixOf k := by
  rw [Bool.eq_iff_iff, List.isPrefixOf_iff_prefix, List.isPrefixOf_iff_prefix]
  constructor
  · rintro ⟨t, ht⟩
    have := congrArg n8k ht
    rw [n8k_u8k hk] at this
    refine ⟨n8k t, ?_⟩
    rw [← this]
    show _ = n8k (u8k p ++ t)
    unfold n8k
    rw [List.map_append]
    congr 1
    exact (n8k_u8k hp).symm
  · rintro ⟨t, rfl⟩
    exact ⟨u8k t, by unfold u8k; rw [List.map_append]⟩
theorem cmp_lt : ∀ {a b : List UInt8}, a < b → Lib.compareBytes a b = -1
  | [], [], h => absurd h (List.lt_irrefl _)
  | [], _ :: _, _ => rfl
  | _ :: _, [], h => absurd h (List.not_lt_nil _)
  | x :: a, y :: b, h => by
    rw [List.cons_lt_cons_iff] at h
    unfold Lib.compareBytes
    rcases h with h | ⟨rfl, h⟩
    · rw [if_pos h]
    · rw [if_neg (UInt8.lt_irrefl _), if_neg (UInt8.lt_irrefl _)]
      exact cmp_lt h
theorem cmpBy_n8 {a b : List UInt8} (h : a < b) : cmpBy (n8k a) (n8k b) = -1 := by
  have e : ∀ x : List UInt8, u8s (n8k x) = x := fun x => u8k_n8k x
  unfold cmpBy
  rw [e, e]
  exact cmp_lt h
theorem filt_pa (all : List LP) (p : List Nat → Bool) : ((all.map LP.pa).filter (fun q => p q.1)).length = (all.filter (fun l => p l.k)).length := by
  rw [List.filter_map, List.length_map]; rfl
theorem prs_nil (w : World) : Prs w none 0 0 [] := ⟨⟨by simp, Nat.le_refl _, Nat.zero_le _, fun _ => rfl, 0, 0, fun h => absurd h (by decide), by simp⟩, rfl, by simp⟩
set_option maxRecDepth 100000 in
set_option maxHeartbeats 16000000 in
theorem skeyslaw_walk (a : Option Addr) (N c : Nat) (ls : List LC) (a' : Option Addr) (n c' : Nat) (fs : List Nat) (hb8 : ∀ d ∈ fs, d < 256) (w : World) (h : Chs w a N c ls) (hk : Sl .u8 w a' n c' fs) (ht : Tabs w) :
    Calls Tryz.prog 5 #[.slice a N c, .slice a' n c'] w fun e w' => e = .returned (.bool true) ∧ Below w.heap.size w w' := by
  have HT := hid ht
  have HK := hid hk
  have H8 := hid hb8
  have HC := hid h
  clear ht hk hb8 h
  go_enter Tryz.func5, Tryz.ntmps5
  go_wp2_with (fail)
  refine (shead_walk w HT.out).mono ?_
  rintro e w1 ⟨rfl, b1⟩
  have B1 := hid b1
  clear b1
  go_wp2_with (fail)
  refine (lbig_walk a N c ls w1 (HC.out.below B1.out)).mono ?_
  rintro e w2 ⟨bb, rfl, hbb, b2⟩
  have B2 := hid (B1.out.trans (b2.mono B1.out.size))
  clear b2
  cases bb with
  | true =>
    clear hbb
    go_wp2_with (fail)
    go_ret
    exact ⟨rfl, B2.out⟩
  | false =>
    have SM := hid (hbb rfl)
    clear hbb
    go_wp2_with (fail)
    refine (wrong_walk a N c ls w2 (HC.out.below B2.out) (by have := SM.out.1; omega)).mono ?_
    rintro e w3 ⟨bw, rfl, hbw, b3⟩
    have B3 := hid (B2.out.trans (b3.mono B2.out.size))
    clear b3
    cases bw with
    | true =>
      clear hbw
      go_wp2_with (fail)
      go_ret
      exact ⟨rfl, B3.out⟩
    | false =>
      have WR := hid (hbw rfl)
      clear hbw
      by_cases h2 : 200 < n
      case pos =>
        have p2 : decide (200 < n) = true := decide_eq_true h2
        have p2' : decide ((200 : Int) < (n : Int)) = true := decide_eq_true (by omega)
        clear h2
        go_wp2_with (fail)
        go_ret
        exact ⟨rfl, B3.out⟩
      have p2 : decide (200 < n) = false := decide_eq_false h2
      have p2' : decide ((200 : Int) < (n : Int)) = false := decide_eq_false (by omega)
      clear h2
      go_wp2_with (fail)
      refine (dnew_walk 200 rfl w3).mono ?_
      rintro e w4 ⟨rfl, d4⟩
      have D4 := hid (show NewR w3 200 w4 from d4)
      clear d4
      go_wp2_with (fail)
      refine (fresh_open (n := 200) (by decide) (HT.out.below B3.out) D4.out).mono ?_
      rintro e w5 ⟨sb, S, m0, rfl, sa, hm0, b5, hs⟩
      have SA := hid sa
      have HM := hid hm0
      have B5 := hid (B3.out.trans (b5.mono B3.out.size))
      have HS := hid (show ∀ i, S i → w.heap.size ≤ i from fun i hi => Nat.le_trans B3.out.size (hs i hi))
      have LL := hid HC.out.2.1
      clear sa hm0 b5 hs D4
      have PU := hid (sput_walk SA.out (HT.out.below B5.out) a N c ls (fun w' k => HC.out.below (B5.out.trans (k.below HS.out B5.out.size))) WR.out (fun l hl => (SM.out.2 l hl).2) (by have := SM.out.1; omega) (by have := HM.out; omega) _ rfl (by
        have hb := encC_bytes (ls.map LC.chg) 128 200 (fun c hc => by
          obtain ⟨l, hl, rfl⟩ := List.mem_map.1 hc
          exact ⟨(WR.out l hl).2.1, (SM.out.2 l hl).2⟩)
        rw [List.length_map, LL.out] at hb
        have := SM.out.1
        omega))
      go_wp2_with (fail)
      refine PU.out.mono ?_
      rintro e w6 ⟨⟨rfl, S', m', sa', hm', _⟩, k6⟩
      have B6 := hid (B5.out.trans (k6.below HS.out B5.out.size))
      obtain ⟨jb, mb, sB, mp⟩ := sa'.look
      obtain ⟨M, hM⟩ : ∃ M, M = takeM (fun _ => none) (ls.map LC.chg) := ⟨_, rfl⟩
      rw [← hM] at mp
      have SB := hid sB
      have MP := hid mp
      have IP := hid (show IsP ((doneL [] ls).map LP.pa) M by rw [doneL_pa, hM]; exact IsP.nil.done _)
      have HM6 := hid (show m' ≤ 1000000 by have := HM.out; have := SM.out.1; omega)
      clear sa' hm' k6 sB mp hM PU SA HM HS
      go_wp2_with (fail)
      refine (done_walk none 0 0 [] a N c ls w6 (prs_nil w6) (HC.out.below B6.out) (by decide) (by have := SM.out.1; omega)).mono ?_
      rintro e w7 ⟨a7, c7, rfl, p7, b7⟩
      have P7 := hid p7
      have B7 := hid (B6.out.trans (b7.mono B6.out.size))
      have SB7 := hid (SB.out.below b7)
      have MP7 := hid (MP.out.below b7)
      obtain ⟨all, hall⟩ : ∃ all, all = doneL [] ls := ⟨_, rfl⟩
      have AL := hid (show all.length ≤ 6 by rw [hall]; have := doneL_len [] ls; have := SM.out.1; have := LL.out; simp at *; omega)
      rw [← hall] at P7 IP ⊢
      obtain ⟨A, hA⟩ : ∃ A, A = all.length := ⟨_, rfl⟩
      rw [← hA] at P7 ⊢
      have AE := hid hA
      clear p7 b7 SB MP hall hA
      go_wp2_with (fail)
      refine (Keys_walk SB7.out MP7.out HM6.out a' n c' fs (HK.out.below B7.out)).mono ?_
      rintro e w8 ⟨v8, ks, vs, rfl, hks, hkl, o8, f8, b8⟩
      have KS := hid hks
      have F8 := hid f8
      have KN := hid (show ks.length = (all.filter (fun l => fs.isPrefixOf l.k)).length by
        have := IP.out.lenF (ks := ks.map n8k) hks.nd (fun k => fs.isPrefixOf k) (fun k => by
          constructor
          · intro hk
            have ok := hks.ok k hk
            have := (hks.mem k ok).1 hk
            exact ⟨this.1, by rw [← pre_u8 H8.out ok.2]; exact this.2⟩
          · rintro ⟨h1, h2⟩
            have ok := MP7.out.ok k h1
            exact (hks.mem k ok).2 ⟨h1, by rw [pre_u8 H8.out ok.2]; exact h2⟩)
        rw [List.length_map, filt_pa] at this
        exact this)
      obtain ⟨a8, c8, rfl, rd8⟩ := Rd.of_owns o8
      have RD8 := hid rd8
      have B8 := hid (B7.out.trans (b8.mono B7.out.size))
      have SB8 := hid (SB7.out.below b8)
      have MP8 := hid (MP7.out.below b8)
      have P8 := hid (P7.out.below b8)
      obtain ⟨K, hK⟩ : ∃ K, K = ks.length := ⟨_, rfl⟩
      have KE := hid hK
      rw [← hK] at RD8 ⊢
      clear hks hkl o8 f8 rd8 b8 hK SB7 MP7 P7
      go_wp2_with (fail)
      go_loopw [9, 52] (fun x9 x52 wr => ∃ (i m : Nat), i ≤ A ∧ x52 = .int .i64 (i : Int) ∧ x9 = .int .i64 (m : Int) ∧ m = ((all.take i).filter (fun l => fs.isPrefixOf l.k)).length ∧ Below w8.heap.size w8 wr) (fun _ x52 _ => A - (intOf x52).toNat)
      case atStart => exact ⟨0, 0, Nat.zero_le _, rfl, rfl, by simp, Below.refl _ _⟩
      case round =>
        obtain ⟨i, m, hi, rfl, rfl, hm, hb⟩ := hrel
        have BR := hid hb
        have ME := hid hm
        clear hb hm
        by_cases hlt : i < A
        case pos =>
          have t3 : decide (i < A) = true := decide_eq_true hlt
          have t4 : decide ((i : Int) < (A : Int)) = true := decide_eq_true (by omega)
          obtain ⟨p, hp⟩ := get_some P8.out.2.1 hlt
          obtain ⟨pb, poff, rfl, p0, p1, gp⟩ := (P8.out.below BR.out).cells hp
          have GP := hid gp
          have TK := hid (show all.take (i + 1) = all.take i ++ [p] from take_succ_some hp)
          obtain ⟨i1, hi1⟩ : ∃ i1, i1 = i + 1 := ⟨_, rfl⟩
          obtain ⟨m1, hm1⟩ : ∃ m1, m1 = m + 1 := ⟨_, rfl⟩
          have ml : m ≤ 6 := by
            have h1 := List.length_filter_le (fun l : LP => fs.isPrefixOf l.k) (all.take i)
            have h2 := List.length_take_le i all
            have := ME.out; have := AL.out; have := AE.out
            omega
          have r4 : IntKind.i64.wrap ((i : Int) + 1) = (i1 : Int) := by have := AL.out; have := AE.out; rw [IntKind.wrap_i64]; omega
          have r5 : IntKind.i64.wrap ((m : Int) + 1) = (m1 : Int) := by rw [IntKind.wrap_i64]; omega
          have I1 := hid hi1
          have M1 := hid hm1
          have LT := hid hlt
          obtain ⟨pka, pkc, pk, pva, pvc, pv⟩ := p
          have p0' : wr.cell? ⟨pb, poff + i * 2, none⟩ = some (.slice pka pk.length pkc) := p0
          have p1' : wr.cell? ⟨pb, poff + i * 2 + 1, none⟩ = some (.slice pva pv.length pvc) := p1
          clear p0 p1 hp gp hi hlt hi1 hm1 ml
          go_upto_region 14 with (fail)
          refine newW ?_
          intro wp HP BP
          have f0 : wp.cell? ⟨wr.heap.size, 0, none⟩ = some (.slice pka pk.length pkc) := gen_cell (L := [.slice pka pk.length pkc, .slice pva pv.length pvc]) (j := 0) (row_range HP.out) rfl
          have PW := hid (bpre_walk pka a' pk.length pkc n c' pk fs GP.out.k8 H8.out wp (GP.out.ks.below BP.out) (HK.out.below (B8.out.trans ((BR.out.trans (BP.out.mono BR.out.size)).mono B8.out.size))))
          have B9 := hid (BR.out.trans (BP.out.mono BR.out.size))
          clear p0' p1'
          cases hq : fs.isPrefixOf pk with
          | true =>
            have TQ := hid (show m1 = ((all.take i1).filter (fun l => fs.isPrefixOf l.k)).length by
              rw [I1.out, TK.out, List.filter_append, List.length_append, ← ME.out, M1.out]
              simp [hq])
            rw [hq] at PW
            clear hq
            go_wp2_with (fail)
            refine PW.out.mono ?_
            rintro e wq ⟨rfl, rfl⟩
            go_wp2_with (fail)
            go_roundw
            case rel => exact ⟨i1, m1, by have := I1.out; have := LT.out; omega, rfl, rfl, TQ.out, B9.out⟩
            case measure => simp [intOf]; have := I1.out; have := LT.out; omega
          | false =>
            have TQ := hid (show m = ((all.take i1).filter (fun l => fs.isPrefixOf l.k)).length by
              rw [I1.out, TK.out, List.filter_append, List.length_append, ← ME.out]
              simp [hq])
            rw [hq] at PW
            clear hq
            go_wp2_with (fail)
            refine PW.out.mono ?_
            rintro e wq ⟨rfl, rfl⟩
            go_wp2_with (fail)
            go_roundw
            case rel => exact ⟨i1, m, by have := I1.out; have := LT.out; omega, rfl, rfl, TQ.out, B9.out⟩
            case measure => simp [intOf]; have := I1.out; have := LT.out; omega
        obtain rfl : i = A := by omega
        have t3 : decide (i < i) = false := decide_eq_false (by omega)
        have t4 : decide ((i : Int) < (i : Int)) = false := decide_eq_false (by omega)
        obtain rfl : m = K := by
          rw [ME.out, KE.out, KN.out, List.take_of_length_le (by rw [AE.out]; exact Nat.le_refl _)]
        have ML := hid (show m ≤ 6 by
          have h1 := List.length_filter_le (fun l : LP => fs.isPrefixOf l.k) all
          have := KE.out; have := KN.out; have := AL.out
          omega)
        have B9 := hid (B8.out.trans (BR.out.mono B8.out.size))
        have SB9 := hid (SB8.out.below BR.out)
        have MP9 := hid (MP8.out.below BR.out)
        have F9 := hid (F8.out.below BR.out)
        have RD9 := hid (RD8.out.below BR.out)
        obtain ⟨wo, rfl⟩ : ∃ wo, wo = wr := ⟨_, rfl⟩
        clear hi hlt SB8 MP8 F8 RD8
        go_wp2_with (fail)
        go_loopw [69] (fun x69 wr => ∃ i : Nat, i ≤ m ∧ x69 = .int .i64 (i : Int) ∧ Below wo.heap.size wo wr) (fun x69 _ => m - (intOf x69).toNat)
        case atStart => exact ⟨0, Nat.zero_le _, rfl, Below.refl _ _⟩
        case round =>
          obtain ⟨k, hk, rfl, hb⟩ := hrel
          have BR := hid hb
          clear hb
          by_cases hlt : k < m
          case neg =>
            obtain rfl : k = m := by omega
            have t5 : decide (k < k) = false := decide_eq_false (by omega)
            have t6 : decide ((k : Int) < (k : Int)) = false := decide_eq_false (by omega)
            have BE := hid (B9.out.trans (BR.out.mono B9.out.size))
            clear hk hlt
            go_wp2_with (fail)
            refine (get_nil _ _).mono ?_
            rintro e wq ⟨rfl, rfl⟩
            go_wp2_with (fail)
            refine (keys_nil _ _).mono ?_
            rintro e wq ⟨rfl, rfl⟩
            go_wp2_with (fail)
            refine (sput_nil _ _).mono ?_
            rintro e wq ⟨rfl, rfl⟩
            go_wp2_with (fail)
            go_ret
            exact ⟨rfl, BE.out⟩
          have t5 : decide (k < m) = true := decide_eq_true hlt
          have t6 : decide ((k : Int) < (m : Int)) = true := decide_eq_true (by omega)
          have hkk : k < ks.length := by rw [← KE.out]; exact hlt
          have hkv : k < vs.length := by rw [F9.out.1, List.length_map]; exact hkk
          obtain ⟨x, hx⟩ : ∃ x, ks[k]? = some x := ⟨_, List.getElem?_eq_getElem hkk⟩
          obtain ⟨u, hu⟩ : ∃ u, vs[k]? = some u := ⟨_, List.getElem?_eq_getElem hkv⟩
          obtain ⟨ax, nx, cx, rfl, sx, bx, _⟩ := (F9.out.below BR.out).2 k u (n8k x) hu (by rw [List.getElem?_map, hx]; rfl)
          have SX := hid sx
          have BX := hid bx
          obtain ⟨_, _, _, _, qb, qoff, ha, hc⟩ := RD9.out
          obtain rfl := ha (by omega)
          have cq := cell_keep BR.out (hc k _ hu)
          have XM := hid (List.mem_map_of_mem (f := n8k) (List.mem_of_getElem? hx))
          have XK := hid (KS.out.ok _ XM.out)
          have XP := (KS.out.mem _ XK.out).1 XM.out
          have XF := hid (show fs.isPrefixOf (n8k x) = true by rw [← pre_u8 H8.out XK.out.2]; exact XP.2)
          obtain ⟨bx2, hbx2⟩ := Option.isSome_iff_exists.1 XP.1
          have XV := hid hbx2
          obtain ⟨k1, hk1⟩ : ∃ k1, k1 = k + 1 := ⟨_, rfl⟩
          have r6 : IntKind.i64.wrap ((k : Int) + 1) = (k1 : Int) := by have := ML.out; rw [IntKind.wrap_i64]; omega
          have K1 := hid hk1
          have LT := hid hlt
          have PW := fun (wx : World) (hw : Below wo.heap.size wo wx) (hs : Sl .u8 wx ax nx cx (n8k x)) => hid (bpre_walk ax a' nx cx n c' (n8k x) fs XK.out.2 H8.out wx hs (HK.out.below (B9.out.trans (hw.mono B9.out.size))))
          by_cases h0 : k = 0
          case pos =>
            subst h0
            have PW0 := PW wr BR.out SX.out
            rw [XF.out] at PW0
            rw [Nat.add_zero] at cq
            clear PW hk hlt hkk hkv hx hu sx bx ha hc XP hbx2
            go_wp2_with (fail)
            refine PW0.out.mono ?_
            rintro e wq ⟨rfl, rfl⟩
            go_wp2_with (fail)
            refine (get_walk (SB9.out.below BR.out) (MP9.out.below BR.out) ax nx cx (n8k x) SX.out XK.out.2).mono ?_
            rintro e wg ⟨vg, rfl, og, bg⟩
            rw [XV.out] at og ⊢
            have BG := hid (BR.out.trans (bg.mono BR.out.size))
            clear og bg
            go_wp2_with (fail)
            go_roundw
            case rel => exact ⟨k1, by have := K1.out; have := LT.out; omega, congrArg (Value.int .i64) (by have := K1.out; omega), BG.out⟩
            case measure => simp [intOf]; have := K1.out; have := LT.out; omega
          obtain ⟨k0, hk0⟩ : ∃ k0, k = k0 + 1 := ⟨k - 1, by omega⟩
          obtain ⟨y, hy⟩ : ∃ y, ks[k0]? = some y := ⟨_, List.getElem?_eq_getElem (by omega)⟩
          obtain ⟨u2, hu2⟩ : ∃ u, vs[k0]? = some u := ⟨_, List.getElem?_eq_getElem (by omega)⟩
          obtain ⟨ay, ny, cy, rfl, sy, by', _⟩ := (F9.out.below BR.out).2 k0 u2 (n8k y) hu2 (by rw [List.getElem?_map, hy]; rfl)
          have cq2 := cell_keep BR.out (hc k0 _ hu2)
          have YX := hid (show cmpBy (n8k y) (n8k x) = -1 from cmpBy_n8 (by
            have h1 := (List.getElem?_eq_some_iff.1 hy)
            have h2 := (List.getElem?_eq_some_iff.1 hx)
            obtain ⟨g1, rfl⟩ := h1
            obtain ⟨g2, rfl⟩ := h2
            exact List.pairwise_iff_getElem.1 KS.out.up k0 k g1 g2 (by omega)))
          have CW := hid (bcmp_walk ay ax ny nx cy cx (n8k y) (n8k x) wr sy SX.out)
          rw [YX.out] at CW
          have r7 : IntKind.i64.wrap ((k : Int) - 1) = (k0 : Int) := by have := ML.out; rw [IntKind.wrap_i64]; omega
          have z0 : decide (0 < k) = true := decide_eq_true (by omega)
          have z0' : decide ((0 : Int) < (k : Int)) = true := decide_eq_true (by omega)
          have z1 : (k0 : Int) < (m : Int) := by omega
          have z2 : ¬ ((m : Int) ≤ (k0 : Int)) := by omega
          have z3 : decide (k0 < m) = true := decide_eq_true (by omega)
          have z4 : decide ((k0 : Int) < (m : Int)) = true := decide_eq_true z1
          have PW0 := PW wr BR.out SX.out
          rw [XF.out] at PW0
          clear PW hk hlt hkk hkv hx hu sx bx ha hc XP hbx2 hk0 hy hu2 sy by' h0
          go_wp2_with (fail)
          refine CW.out.mono ?_
          rintro e wq ⟨rfl, rfl⟩
          go_wp2_with (fail)
          refine PW0.out.mono ?_
          rintro e wq ⟨rfl, rfl⟩
          go_wp2_with (fail)
          refine (get_walk (SB9.out.below BR.out) (MP9.out.below BR.out) ax nx cx (n8k x) SX.out XK.out.2).mono ?_
          rintro e wg ⟨vg, rfl, og, bg⟩
          rw [XV.out] at og ⊢
          have BG := hid (BR.out.trans (bg.mono BR.out.size))
          clear og bg
          go_wp2_with (fail)
          go_roundw
          case rel => exact ⟨k1, by have := K1.out; have := LT.out; omega, congrArg (Value.int .i64) (by have := K1.out; omega), BG.out⟩
          case measure => simp [intOf]; have := K1.out; have := LT.out; omega
end Go.Proofs.YtnophelfpoldfaaGreatDoor
