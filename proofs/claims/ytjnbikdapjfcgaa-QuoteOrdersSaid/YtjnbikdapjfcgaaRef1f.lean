/- The reference's numbers as digits: Div. -/
import Derived.Test.YtjnbikdapjfcgaaRef1e
namespace Go.Proofs.Ytjnbikdapjfcgaa
open Go.RowKit

/-- the answer of Div -/
def DivRes (w : World) (x y : Nat) (e : Ending) (w' : World) : Prop :=
  ∃ v qs, e = .returned (.tuple #[v, .bool (decide (0 < x % y))]) ∧ Dig qs (x / y) ∧ SlV .i64 w' v qs ∧ Below w.heap.size w w'
theorem div_ret {w w' : World} {x y : Nat} {v : Value} {ts : List Nat} {b : Bool} (hd : Dig ts (x / y)) (hb : decide (0 < x % y) = b) (hs : SlV .i64 w' v ts) (hw : Below w.heap.size w w') : DivRes w x y (.returned (.tuple #[v, .bool b])) w' :=
  ⟨v, ts, by rw [hb], hd, hs, hw⟩
/-- the outer loop: what is above digit k is parted -/
def DivOut (xs qs : List Nat) (y k R : Nat) : Prop := ∃ Q, Dg qs ∧ val qs = Q ∧ qs.length + k = xs.length ∧ val (xs.drop k) = Q * y + R ∧ R < y
theorem DivOut.step {xs qs : List Nat} {y k R m R' : Nat} (h : DivOut xs qs y (k + 1) R) (hT : xs.getD k 0 + 256 * R = m * y + R') (hR' : R' < y) (hm : m < 256) (hk : k < xs.length) : DivOut xs (m :: qs) y k R' := by
  obtain ⟨Q, h1, h2, h3, h4, h5⟩ := h
  refine ⟨m + 256 * Q, ?_, by simp [val, h2], by simp; omega, ?_, hR'⟩
  · intro d hd
    rcases List.mem_cons.1 hd with rfl | hd
    · exact hm
    · exact h1 d hd
  · rw [drop_eq_cons hk, val, h4, Nat.mul_add, Nat.add_mul, Nat.mul_assoc]
    omega
theorem DivOut.start {xs : List Nat} {y : Nat} (hy : 0 < y) : DivOut xs [] y xs.length 0 := ⟨0, fun _ h => by simp at h, rfl, by simp, by simp [val], hy⟩
theorem DivOut.fin {xs qs : List Nat} {y R : Nat} (h : DivOut xs qs y 0 R) : Dg qs ∧ val qs = val xs / y ∧ R = val xs % y := by
  obtain ⟨Q, h1, h2, h3, h4, h5⟩ := h
  rw [List.drop_zero] at h4
  refine ⟨h1, ?_, ?_⟩
  · rw [h2, h4, Nat.mul_comm, Nat.mul_add_div (by omega), Nat.div_eq_of_lt h5, Nat.add_zero]
  · rw [h4, Nat.mul_comm, Nat.mul_add_mod, Nat.mod_eq_of_lt h5]
theorem Dig.zero_iff {xs : List Nat} {x : Nat} (h : Dig xs x) : (x = 0 → xs.length = 0) ∧ (¬ x = 0 → 0 < xs.length) := by
  constructor
  · intro h0; subst h0; rw [h.zero]; rfl
  · intro h0
    apply Nat.pos_of_ne_zero; intro hl
    have := List.eq_nil_of_length_eq_zero hl
    subst this
    exact h0 h.1.symm
theorem count_lt {T y c R : Nat} (h : T = c * y + R) (hT : T < 256 * y) : c < 256 := by
  apply Nat.lt_of_not_le; intro hc
  have := Nat.mul_le_mul_right y hc
  omega

set_option maxHeartbeats 2000000 in
theorem div_walk (a a' : Option Addr) (n m cap cap' x y : Nat) (xs ys : List Nat) (hn : n ≤ 1000) (hm : m ≤ 1000) (hy0 : 0 < y) (w : World) (h : Sl .i64 w a n cap xs) (hx : Dig xs x) (h' : Sl .i64 w a' m cap' ys) (hy : Dig ys y) :
    Calls Try.prog 24 #[.slice a n cap, .slice a' m cap'] w (DivRes w x y) := by
  have gx := hx.2.1
  have hl : xs.length ≤ n := Nat.le_of_eq h.len
  have hl' : ys.length ≤ m := Nat.le_of_eq h'.len
  have hl2 : n ≤ xs.length := Nat.le_of_eq h.len.symm
  have nil : ∀ g (W : World), SlV .i64 W (.slice (some ⟨g, 0, none⟩) 0 0) [] := fun g W => (Sl.nilS _ _ (by omega) (fun e => by cases e)).toV
  have S0 := DivOut.start (xs := xs) hy0
  go_enter Try.func24, Try.ntmps24
  go_wp2
  go_loopw [6, 7, 8] (fun q0 r0 i0 wr => ∃ (k R : Nat) (qs rs : List Nat), k ≤ n ∧ i0 = .int .i64 ((k : Int) - 1) ∧ DivOut xs qs y k R ∧ Dig rs R ∧ SlV .i64 wr q0 qs ∧ SlV .i64 wr r0 rs ∧ Below w.heap.size w wr) (fun _ _ i0 _ => (intOf i0 + 1).toNat)
  case atStart => exact ⟨n, 0, [], [], by omega, rfl, by rw [show n = xs.length by omega]; exact S0, Dig.nil, nil _ _, nil _ _, ((Below.refl _ _).alloc (by simp) _).alloc (by simp) _⟩
  case round =>
    clear S0 nil
    obtain ⟨k, R, qs, rs, hk, rfl, S, D, ⟨aq, cq, rfl, sq⟩, ⟨ar, cr, rfl, sr⟩, hb⟩ := hrel
    have hbs := hb.size
    have hqn : qs.length ≤ n := by obtain ⟨_, _, _, h3, _⟩ := S; omega
    have hRy : R < y := by obtain ⟨_, _, _, _, _, h5⟩ := S; exact h5
    have hrl : rs.length ≤ m := by
      have := D.len_le (k := ys.length) (by have := hy.lt; omega)
      omega
    by_cases h0 : 0 < k
    · obtain ⟨j, rfl⟩ : ∃ j, k = j + 1 := ⟨k - 1, by omega⟩
      obtain ⟨b, off, ha, hc⟩ := (h.below hb).opened
      have hcx := hc j (by omega)
      obtain rfl := ha (by omega)
      have dx := getD_lt gx j
      have SS := fun (mm R' : Nat) hT hR' hmm => hid (S.step (m := mm) (R' := R') hT hR' hmm (by omega))
      have H := hid h
      have gr := D.2.1
      have vr := D.1
      clear h S
      generalize hd : xs.getD j 0 = d at *
      have ej : (((j + 1 : Nat) : Int) - 1) = (j : Int) := by omega
      rw [ej]
      clear ej hc hd ha
      have O1 := hid (own_lit .i64 wr #[.int .i64 (d : Int)] 3 (B := wr.heap.size) (n := 1) [d] rfl rfl (Nat.le_refl _) (by decide))
      have bb := (Below.refl wr.heap.size wr).alloc (Nat.le_refl _) (.cells #[.int .i64 (d : Int)] 3)
      have SR1 := hid (sr.below bb)
      clear sr
      go_wp2_with (at_builtin; refine wpList_cat rfl _ _ 28 rfl tyD wr.heap.size O1.out rfl rfl SR1.out (nums_oneCell _ _) ?c1 ?c2 ?c3 ?_)
      case c1 => omega
      case c2 => unfold maxLen; omega
      case c3 => simp
      intro v1 w1 hown1 hb1 hs1 _
      rw [nums_append] at hown1
      obtain ⟨a1, c1, rfl, s1⟩ := SlV.of_owns hown1
      have b1 : Below wr.heap.size wr w1 := bb.trans hb1
      clear hown1 hb1 hs1 bb
      have sq1 := sq.below b1
      have hb1 := bstep hb b1
      clear sq
      have gt : Dg ([d] ++ rs) := by
        intro e he
        simp at he
        rcases he with rfl | he
        · exact dx
        · exact gr e he
      have vt : val ([d] ++ rs) = d + 256 * R := by simp [val, vr]
      have hT : d + 256 * R < 256 * y := by omega
      have HT := hid vt
      go_wp2_with fail
      refine (trim_walk a1 _ c1 ([d] ++ rs) _ s1 gt).mono ?_
      rintro e w2 ⟨⟨v2, ts, rfl, dt, st⟩, rfl⟩
      rw [HT.out] at dt
      clear HT s1 gt vt gr vr D dx hcx
      go_wp2
      go_loopw [7, 9] (fun r0 n0 wi => ∃ (c R' : Nat) (rs : List Nat), n0 = .int .i64 c ∧ Hid (d + 256 * R = c * y + R') ∧ R' ≤ d + 256 * R ∧ Dig rs R' ∧ SlV .i64 wi r0 rs ∧ Below w1.heap.size w1 wi) (fun _ n0 _ => d + 256 * R - (intOf n0).toNat)
      case atStart => exact ⟨0, _, ts, rfl, hid (by omega), Nat.le_refl _, dt, st, Below.refl _ _⟩
      case round =>
        clear dt st ts
        obtain ⟨c, R', ts, rfl, hcR, hRT, D, ⟨at1, ct, rfl, st⟩, bi⟩ := hrel
        have htl : ts.length ≤ m + 1 := by
          apply D.len_le
          have h1 := hy.lt
          have h2 : 256 ^ ys.length ≤ 256 ^ m := pow256_le hl'
          rw [Nat.pow_succ]
          omega
        have hcm : c < 256 := count_lt hcR.out hT
        have hcmp : decide (0 ≤ cmpI R' y) = decide (y ≤ R') := by
          unfold cmpI; rw [decide_eq_decide]; split <;> (try split) <;> constructor <;> intro <;> omega
        have HC := hid hcmp
        clear hcmp
        by_cases hge : y ≤ R'
        · rw [decide_eq_true hge] at HC
          have hc1 := HC.out
          clear HC
          go_wp2_with fail
          refine (cmp_walk at1 a' _ _ _ _ R' y ts ys (by omega) (by omega) _ st D (h'.below (bstep hb1 bi)) hy).mono ?_
          rintro e w3 ⟨rfl, q3⟩
          generalize cmpI R' y = cc at *
          have hc2 : 0 ≤ cc := by simpa using hc1
          clear hc1
          have b3 := q3.below wr.heap.size
          go_wp2_with fail
          refine (sub_walk at1 a' _ _ _ _ R' y ts ys (by omega) (by omega) _ (st.below b3) D (h'.below (bstep (bstep hb1 bi) b3)) hy hge).mono ?_
          rintro e w4 ⟨v4, us, rfl, d4, s4, b4⟩
          have hcs := hid (show d + 256 * R = (c + 1) * y + (R' - y) by have := hcR.out; rw [Nat.add_mul]; omega)
          have hcl : c < d + 256 * R := by
            have := hcR.out
            have h2 : c * 1 ≤ c * y := Nat.mul_le_mul_left _ hy0
            omega
          go_wp2
          go_roundw
          case rel => exact ⟨c + 1, R' - y, us, by go_num, hcs, by omega, d4, s4, bstep (bi.trans (b3.mono bi.size)) (b4.mono (by have := bi.size; have := b3.size; omega))⟩
          case measure => simp [intOf]; omega
        · rw [decide_eq_false hge] at HC
          have hc1 := HC.out
          clear HC
          have SF := SS c R' hcR.out (by omega) hcm
          clear SS
          go_wp2_with fail
          refine (cmp_walk at1 a' _ _ _ _ R' y ts ys (by omega) (by omega) _ st D (h'.below (bstep hb1 bi)) hy).mono ?_
          rintro e w3 ⟨rfl, q3⟩
          generalize cmpI R' y = cc at *
          have hc2 : ¬ 0 ≤ cc := by simpa using hc1
          clear hc1
          have b3 := q3.below wr.heap.size
          have hi3 := bstep bi b3
          have sq3 := sq1.below hi3
          have st3 := st.below b3
          have hb3 := bstep hb1 hi3
          clear sq1 st b3 q3 bi hi3 hb1
          have O2 := hid (own_lit .i64 w3 #[.int .i64 (c : Int)] 3 (B := w3.heap.size) (n := 1) [c] rfl rfl (Nat.le_refl _) (by decide))
          have bb := (Below.refl w3.heap.size w3).alloc (Nat.le_refl _) (.cells #[.int .i64 (c : Int)] 3)
          have SQ := hid (sq3.below bb)
          clear sq3
          have HH := hid H
          go_wp2_with (at_builtin; refine wpList_cat rfl _ _ 28 rfl tyD w3.heap.size O2.out rfl rfl SQ.out (nums_oneCell _ _) ?k1 ?k2 ?k3 ?_)
          case k1 => omega
          case k2 => unfold maxLen; omega
          case k3 => simp
          intro v5 w5 hown5 hb5 hs5 _
          rw [nums_append] at hown5
          have sv5 := SlV.of_owns hown5
          have b5 : Below w3.heap.size w3 w5 := bb.trans hb5
          have st5 := st3.below b5
          clear hown5 hb5 hs5 bb st3 SQ O2
          go_wp2
          go_roundw
          case rel => exact ⟨j, R', [c] ++ qs, ts, by omega, rfl, SF.out, D, sv5, st5.toV, bstep hb3 b5⟩
          case measure => simp [intOf]
    · obtain rfl : k = 0 := by omega
      obtain ⟨f1, f2, f3⟩ := S.fin
      rw [hx.1] at f2 f3
      have lr := D.zero_iff
      clear S
      go_wp2_with fail
      refine (trim_walk aq _ cq qs _ sq f1).mono ?_
      rintro e w2 ⟨⟨v2, ts, rfl, dt, st⟩, rfl⟩
      rw [f2] at dt
      rw [f3] at lr
      have fin := fun (b : Bool) (hbq : decide (0 < x % y) = b) => hid (div_ret dt hbq st hb)
      clear f2 f3 dt D
      have F := fin (decide (0 < rs.length)) (by rw [decide_eq_decide]; constructor <;> intro <;> omega)
      clear fin lr
      go_wp2
      go_ret2
      exact F.out
end Go.Proofs.Ytjnbikdapjfcgaa
