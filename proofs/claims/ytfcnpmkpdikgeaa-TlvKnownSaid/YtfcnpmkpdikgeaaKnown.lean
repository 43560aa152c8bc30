/- Contracts of slices.Contains, tlv.Must, tlv.Find; the walk of the statement TlvKnown. -/
import Derived.Test.YtfcnpmkpdikgeaaOpenR
import Derived.Laws.Bits64b
namespace Go.Proofs.Ytfcnpmkpdikgeaa
open Go.RowKit

theorem getD_ltM {xs : List Nat} {M : Nat} (h : ∀ d ∈ xs, d < M) (hM : 0 < M) (k : Nat) : xs.getD k 0 < M := by
  rw [List.getD_eq_getElem?_getD]
  cases hk : xs[k]? with
  | none => simpa using hM
  | some d => simpa using h d (List.mem_of_getElem? hk)
theorem sl_u64 {w : World} {a : Option Addr} {n cap : Nat} {xs : List Nat} (h : Sl .u64 w a n cap xs) {j : Nat} (hj : j < n) : ∃ b off, a = some ⟨b, off, none⟩ ∧ w.cell? ⟨b, off + j, none⟩ = some (.int .u64 ((xs.getD j 0 : Nat) : Int)) := by
  obtain ⟨b, off, ha, hc⟩ := h.opened
  exact ⟨b, off, ha (by omega), hc j hj⟩
def HasI (w : World) (b : Bool) (e : Ending) (w' : World) : Prop := ∃ i : Int, e = .returned (.int .i64 i) ∧ decide (0 ≤ i) = b ∧ w = w'
theorem index_walk (a : Option Addr) (n cap : Nat) (xs : List Nat) (x : Nat) (hn : n ≤ 140737488355328) (w : World) (h : Sl .u64 w a n cap xs) :
    Calls Try.prog 29 #[.slice a n cap, .int .u64 x] w (HasI w (decide (x ∈ xs))) := by
  have HL := hid h.len
  go_enter Try.func29, Try.ntmps29
  go_wp2
  go_loopw [8] (fun i0 wr => ∃ k : Nat, k ≤ n ∧ i0 = .int .i64 k ∧ x ∉ xs.take k ∧ wr = w) (fun i0 _ => n - (intOf i0).toNat)
  case atStart => exact ⟨0, by omega, rfl, by simp, rfl⟩
  case round =>
    obtain ⟨k, hk, rfl, hx, rfl⟩ := hrel
    by_cases hlt : k < n
    · obtain ⟨b, off, rfl, hcx⟩ := sl_u64 h hlt
      have hd : xs[k]? = some (xs.getD k 0) := by rw [List.getD_eq_getElem?_getD, List.getElem?_eq_getElem (by rw [HL.out]; exact hlt)]; rfl
      generalize xs.getD k 0 = y at *
      by_cases he : x = y
      · have fin : decide (x ∈ xs) = true := by rw [decide_eq_true_eq, he]; exact List.mem_of_getElem? hd
        have F := hid (show HasI wr (decide (x ∈ xs)) (.returned (.int .i64 (k : Int))) wr from ⟨k, rfl, by rw [fin, decide_eq_true_eq]; omega, rfl⟩)
        have te : ((x : Int) == (y : Int)) = true := by simp [he]
        clear fin hx hd h he
        go_wp2
        go_ret
        exact F.out
      · have H2 := hid (show x ∉ xs.take (k + 1) by rw [take_succ_some hd, List.mem_append]; simp [hx, he])
        have te : ((x : Int) == (y : Int)) = false := by simp; omega
        clear hx hd h he
        go_wp2
        go_roundw
        case rel => exact ⟨k + 1, by omega, by go_num, H2.out, trivial⟩
        case measure => simp [intOf]; omega
    · obtain rfl : k = n := by omega
      have fin : decide (x ∈ xs) = false := by rw [decide_eq_false_iff_not]; rwa [List.take_of_length_le (by rw [HL.out]; exact Nat.le_refl _)] at hx
      have F := hid (show HasI wr (decide (x ∈ xs)) (.returned (.int .i64 (-1))) wr from ⟨-1, rfl, by rw [fin]; rfl, rfl⟩)
      clear fin hx h
      go_wp2
      go_ret
      exact F.out
theorem contains_walk (a : Option Addr) (n cap : Nat) (xs : List Nat) (x : Nat) (hn : n ≤ 140737488355328) (w : World) (h : Sl .u64 w a n cap xs) :
    Calls Try.prog 28 #[.slice a n cap, .int .u64 x] w fun e w' => e = .returned (.bool (decide (x ∈ xs))) ∧ w = w' := by
  have C := fun wx h => hid (index_walk a n cap xs x hn wx h)
  generalize decide (x ∈ xs) = r at *
  go_enter Try.func28, Try.ntmps28
  go_wp2_with fail
  refine (C _ h).out.mono ?_
  rintro e w1 ⟨i, rfl, hi, rfl⟩
  have HI := hid hi
  clear hi
  go_wp2
  go_ret
  exact ⟨by rw [← HI.out]; rfl, rfl⟩

def mustV (rs : List LR) (ks : List Nat) : Int := if ∃ r ∈ rs, r.t % 2 = 0 ∧ r.t ∉ ks then 23 else 0
def IntB (w : World) (r : Int) (e : Ending) (w' : World) : Prop := e = .returned (.int .i64 r) ∧ Below w.heap.size w w'
set_option maxHeartbeats 1000000 in
theorem must_walk (a a' : Option Addr) (n cap m cap' : Nat) (rs : List LR) (ks : List Nat) (hn : n ≤ 140737488355328) (hm : m ≤ 140737488355328) (w : World) (h : Recs w a n cap rs) (h' : Sl .u64 w a' m cap' ks) :
    Calls Try.prog 18 #[.slice a n cap, .slice a' m cap'] w (IntB w (mustV rs ks)) := by
  have HL := hid h.2.1
  go_enter Try.func18, Try.ntmps18
  go_wp2
  go_loopw [9] (fun i0 wr => ∃ k : Nat, k ≤ n ∧ i0 = .int .i64 k ∧ Hid (¬ ∃ r ∈ rs.take k, r.t % 2 = 0 ∧ r.t ∉ ks) ∧ Below w.heap.size w wr) (fun i0 _ => n - (intOf i0).toNat)
  case atStart => exact ⟨0, by omega, rfl, hid (by simp), Below.refl _ _⟩
  case round =>
    obtain ⟨k, hk, rfl, hx, hb⟩ := hrel
    by_cases hlt : k < n
    · obtain ⟨r, hr⟩ := get_some HL.out hlt
      obtain ⟨b, off, rfl, c0, c1, gd⟩ := (h.below hb).cells hr
      have S' := hid (h'.below hb)
      have HH := hid (And.intro h h')
      have gt := gd.1
      have hr2 := hid hr
      have BB := hid (bstep hb ((Below.refl wr.heap.size wr).alloc (Nat.le_refl _) (.cells #[.int .u64 (r.t : Int), .slice r.a r.v.length r.c] 39)))
      have S2 := hid (S'.out.below ((Below.refl wr.heap.size wr).alloc (Nat.le_refl _) (.cells #[.int .u64 (r.t : Int), .slice r.a r.v.length r.c] 39)))
      clear h h' gd hr
      by_cases he : r.t % 2 = 0
      · have tz : (((r.t : Int) % 2) == 0) = true := by simp; omega
        by_cases hc : r.t ∈ ks
        · have H2 := hid (show ¬ ∃ r ∈ rs.take (k + 1), r.t % 2 = 0 ∧ r.t ∉ ks by
            rw [take_succ_some hr2.out]
            rintro ⟨q, hq, q1, q2⟩
            rcases List.mem_append.1 hq with hq | hq
            · exact hx.out ⟨q, hq, q1, q2⟩
            · simp at hq; subst hq; exact q2 hc)
          have tc := decide_eq_true hc
          have C := hid (contains_walk a' m cap' ks r.t hm _ S2.out)
          rw [tc] at C
          clear hc tc hx he
          go_wp2_with fail
          refine (C.out).mono ?_
          rintro e w1 ⟨rfl, rfl⟩
          go_wp2
          go_roundw
          case rel => exact ⟨k + 1, by omega, by go_num, H2, BB.out⟩
          case measure => simp [intOf]; omega
        · have fin : mustV rs ks = 23 := if_pos ⟨r, List.mem_of_getElem? hr2.out, he, hc⟩
          have FI := hid fin
          have tc := decide_eq_false hc
          have C := hid (contains_walk a' m cap' ks r.t hm _ S2.out)
          rw [tc] at C
          clear hc tc hx fin he
          go_wp2_with fail
          refine (C.out).mono ?_
          rintro e w1 ⟨rfl, rfl⟩
          go_wp2
          go_ret
          exact ⟨by rw [FI.out]; rfl, BB.out⟩
      · have H2 := hid (show ¬ ∃ r ∈ rs.take (k + 1), r.t % 2 = 0 ∧ r.t ∉ ks by
            rw [take_succ_some hr2.out]
            rintro ⟨q, hq, q1, q2⟩
            rcases List.mem_append.1 hq with hq | hq
            · exact hx.out ⟨q, hq, q1, q2⟩
            · simp at hq; subst hq; exact he q1)
        have tz : (((r.t : Int) % 2) == 0) = false := by simp; omega
        clear hx he
        go_wp2
        go_roundw
        case rel => exact ⟨k + 1, by omega, by go_num, H2, BB.out⟩
        case measure => simp [intOf]; omega
    · obtain rfl : k = n := by omega
      have hx' := hx.out
      rw [List.take_of_length_le (by rw [HL.out]; exact Nat.le_refl _)] at hx'
      have FI := hid (show mustV rs ks = 0 from if_neg hx')
      clear hx hx' h h'
      go_wp2
      go_ret
      exact ⟨by rw [FI.out]; rfl, hb⟩

def findV (rs : List LR) (t : Nat) : Option (List Nat) := (rs.find? (fun r => r.t == t)).map LR.v
theorem findV_snoc (rs : List LR) (r : LR) (t : Nat) : findV (rs ++ [r]) t = (findV rs t).or (if r.t = t then some r.v else none) := by
  unfold findV
  rw [List.find?_append]
  cases rs.find? (fun r => r.t == t) with
  | some x => rfl
  | none =>
    by_cases h : r.t = t
    · simp [h]
    · simp [h]
def FindRes (w : World) (o : Option (List Nat)) (e : Ending) (w' : World) : Prop := ∃ v, e = .returned (.tuple #[v, .bool o.isSome]) ∧ SlV .u8 w' v (o.getD []) ∧ Below w.heap.size w w'
theorem own_nil (w : World) (B : Nat) (e : TypeId) (size : Nat) : w.ownsRow B e size (.slice none 0 0) 0 [] := ⟨by simp, .inl ⟨rfl, rfl⟩⟩
set_option maxHeartbeats 1000000 in
theorem find_walk (a : Option Addr) (n cap : Nat) (rs : List LR) (t : Nat) (hn : n ≤ 140737488355328) (w : World) (h : Recs w a n cap rs) :
    Calls Try.prog 19 #[.slice a n cap, .int .u64 t] w (FindRes w (findV rs t)) := by
  have HL := hid h.2.1
  go_enter Try.func19, Try.ntmps19
  go_wp2
  go_loopw [10] (fun i0 wr => ∃ k : Nat, k ≤ n ∧ i0 = .int .i64 k ∧ Hid (findV (rs.take k) t = none) ∧ Below w.heap.size w wr) (fun i0 _ => n - (intOf i0).toNat)
  case atStart => exact ⟨0, by omega, rfl, hid rfl, Below.refl _ _⟩
  case round =>
    obtain ⟨k, hk, rfl, hx, hb⟩ := hrel
    by_cases hlt : k < n
    · obtain ⟨r, hr⟩ := get_some HL.out hlt
      obtain ⟨b, off, rfl, c0, c1, gd⟩ := (h.below hb).cells hr
      have HH := hid h
      have hs := hid (findV_snoc (rs.take k) r t)
      have HR := hid hr
      have bb := (Below.refl wr.heap.size wr).alloc (Nat.le_refl _) (.cells #[.int .u64 (r.t : Int), .slice r.a r.v.length r.c] 39)
      have BB := hid (bstep hb bb)
      have SV := hid (gd.2.1.below bb)
      have hlen := gd.2.2.2
      have BW := hid bb
      clear h hr gd bb
      by_cases he : r.t = t
      · have te : ((r.t : Int) == (t : Int)) = true := by simp [he]
        have FI := hid (show findV rs t = some r.v by
          have e : rs.take (k + 1) = rs.take k ++ [r] := take_succ_some HR.out
          have e2 := findV_snoc (rs.take k) r t
          rw [← e, hx.out, if_pos he] at e2
          have e3 : findV rs t = (findV (rs.take (k + 1)) t).or (findV (rs.drop (k + 1)) t) := by
            unfold findV
            conv => lhs; rw [← List.take_append_drop (k + 1) rs, List.find?_append]
            cases List.find? (fun r => r.t == t) (List.take (k + 1) rs) <;> rfl
          rw [e3, e2]; rfl)
        clear hx he
        go_wp2_with (at_builtin; refine wpList_cat rfl _ _ 25 rfl tyBs wr.heap.size (own_nil _ _ _ _) rfl rfl SV.out (nums_oneCell _ _) ?c1 ?c2 ?c3 ?_)
        case c1 => omega
        case c2 => unfold maxLen; omega
        case c3 => simp
        intro v2 w2 hown2 hb2 hs2
        have S2 := hid (SlV.of_owns hown2)
        have B2 := hid (hb.trans ((BW.out.trans hb2).mono hb.size))
        clear hown2 hb2 hs2
        go_wp2
        go_ret2
        exact ⟨v2, by rw [FI.out]; rfl, by rw [FI.out]; exact S2.out, B2.out⟩
      · have te : ((r.t : Int) == (t : Int)) = false := by simp; omega
        have H2 := hid (show findV (rs.take (k + 1)) t = none by rw [take_succ_some HR.out, hs.out, hx.out, if_neg he]; rfl)
        clear hx he
        go_wp2
        go_roundw
        case rel => exact ⟨k + 1, by omega, by go_num, H2, BB.out⟩
        case measure => simp [intOf]; omega
    · obtain rfl : k = n := by omega
      have hx' := hx.out
      rw [List.take_of_length_le (by rw [HL.out]; exact Nat.le_refl _)] at hx'
      have FI := hid hx'
      clear hx hx' h
      go_wp2
      go_ret2
      exact ⟨_, by rw [FI.out]; rfl, by rw [FI.out]; exact (Sl.nilS .u8 _ (by omega) (fun _ => rfl)).toV, hb⟩
theorem recs_lit {w : World} {us : Array Value} {e : TypeId} {n : Nat} (ls : List LR) (hn : ls.length = n) (hu : us.toList = ls.flatMap LR.cells) (hz : us.size = n * 2) (hm : n ≤ maxLen) (hg : ∀ l ∈ ls, l.good w) :
    Recs (w.alloc (.cells us e)) (some ⟨w.heap.size, 0, none⟩) n n ls := by
  obtain ⟨a', cap', he, hr⟩ := Rd.of_owns (own_new w us e (B := w.heap.size) hz (Nat.le_refl _) hm)
  simp only [Value.slice.injEq, true_and] at he
  obtain ⟨rfl, rfl⟩ := he
  rw [hu] at hr
  exact ⟨hr, hn, fun l hl => (hg l hl).below ((Below.refl _ _).alloc (Nat.le_refl _) _)⟩
theorem LR.good_nil (w : World) (t : Nat) (h : t < 18446744073709551616) : (LR.mk t none 0 []).good w := ⟨h, Sl.nilS .u8 _ (Nat.zero_le _) (fun _ => rfl), by simp, by simp⟩
theorem and1 {x : Nat} (hx : x < 18446744073709551616) : bits .and .u64 (x : Int) 1 = ((x % 2 : Nat) : Int) := by
  have h := bits_and_u64_nat x 1 hx (by decide)
  rw [Nat.and_one_is_mod] at h
  exact h

theorem mustV_snoc (rs : List LR) (r : LR) (ks : List Nat) : mustV (rs ++ [r]) ks = if decide (r.t % 2 = 1 ∨ r.t ∈ ks) = true then mustV rs ks else 23 := by
  unfold mustV
  by_cases h : r.t % 2 = 1 ∨ r.t ∈ ks
  · rw [decide_eq_true h, if_pos rfl]
    have : (∃ q ∈ rs ++ [r], q.t % 2 = 0 ∧ q.t ∉ ks) ↔ ∃ q ∈ rs, q.t % 2 = 0 ∧ q.t ∉ ks := by
      constructor
      · rintro ⟨q, hq, h1, h2⟩
        rcases List.mem_append.1 hq with hq | hq
        · exact ⟨q, hq, h1, h2⟩
        · simp at hq; subst hq; rcases h with h | h
          · omega
          · exact absurd h h2
      · rintro ⟨q, hq, h1, h2⟩; exact ⟨q, List.mem_append_left _ hq, h1, h2⟩
    simp only [this]
  · rw [decide_eq_false h, if_neg (show ¬ (false = true) by decide), if_pos]
    exact ⟨r, by simp, by omega, fun hk => h (.inr hk)⟩
/-- what the statement's loop has found so far -/
def KRel (w : World) (n : Nat) (rs : List LR) (ks : List Nat) (t : Nat) (x7 x8 x9 i0 : Value) (wr : World) : Prop :=
  ∃ (k : Nat) (o : Option (List Nat)) (av : Option Addr) (cv : Nat), k ≤ n ∧ i0 = .int .i64 k ∧ x7 = .int .i64 (mustV (rs.take k) ks) ∧ x8 = .slice av (o.getD []).length cv ∧ x9 = .bool o.isSome ∧
    Hid (Sl .u8 wr av (o.getD []).length cv (o.getD []) ∧ (∀ d ∈ o.getD [], d < 256) ∧ findV (rs.take k) t = o) ∧ Below w.heap.size w wr
theorem mem_take_succ {xs : List Nat} {j y : Nat} (h : xs[j]? = some y) (x : Nat) : (x ∈ xs.take (j + 1)) = (x ∈ xs.take j ∨ x = y) := by
  rw [take_succ_some h]; simp
theorem has_true {ks : List Nat} {j x y : Nat} (h : ks[j]? = some y) (hb : decide (x % 2 = 1 ∨ x ∈ ks.take j) = true) : decide (x % 2 = 1 ∨ x ∈ ks.take (j + 1)) = true := by
  rw [decide_eq_true_eq] at *
  rw [mem_take_succ h]
  exact hb.elim .inl (fun k => .inr (.inl k))
theorem has_false {ks : List Nat} {j x y : Nat} (h : ks[j]? = some y) (hb : decide (x % 2 = 1 ∨ x ∈ ks.take j) = false) : decide (x % 2 = 1 ∨ x ∈ ks.take (j + 1)) = ((y : Int) == (x : Int)) := by
  rw [decide_eq_false_iff_not] at hb
  have e : (x % 2 = 1 ∨ x ∈ ks.take (j + 1)) ↔ y = x := by
    rw [mem_take_succ h]
    exact ⟨fun k => (or_assoc.2 k).elim (fun k => absurd k hb) Eq.symm, fun k => .inr (.inr k.symm)⟩
  rw [decide_eq_decide.2 e]
  by_cases e : y = x
  · simp [e]
  · rw [decide_eq_false e]; simp; omega
set_option maxRecDepth 100000 in
set_option maxHeartbeats 4000000 in
theorem lawKnown (a : Option Addr) (n cap : Nat) (rs : List LR) (a' : Option Addr) (m cap' : Nat) (ks : List Nat) (t : Nat) (hks : ∀ d ∈ ks, d < 18446744073709551616) (w : World) (h : Recs w a n cap rs) (h' : Sl .u64 w a' m cap' ks) :
    Calls Try.prog 5 #[.slice a n cap, .slice a' m cap', .int .u64 t] w fun e w' => e = .returned (.bool true) ∧ Below w.heap.size w w' := by
  have HL := hid h.2.1
  have HK := hid h'.len
  have R1 := recs_lit (w := w) (us := #[.int .u64 (2 : Nat), .slice none 0 0]) (e := 39) [⟨2, none, 0, []⟩] rfl rfl rfl (by decide) (fun l hl => by simp at hl; subst hl; exact LR.good_nil w 2 (by decide))
  have M1 := hid (must_walk _ none _ _ 0 0 _ [] (by decide) (by decide) _ R1 (Sl.nilS .u64 _ (Nat.zero_le _) (fun _ => rfl)))
  have e1 : mustV [⟨2, none, 0, []⟩] [] = 23 := rfl
  rw [e1] at M1
  have M2 := fun wx => hid (must_walk _ none _ _ 0 0 _ [] (by decide) (by decide) _ (recs_lit (w := wx) (us := #[.int .u64 (3 : Nat), .slice none 0 0]) (e := 39) [⟨3, none, 0, []⟩] rfl rfl rfl (by decide) (fun l hl => by simp at hl; subst hl; exact LR.good_nil wx 3 (by decide))) (Sl.nilS .u64 _ (Nat.zero_le _) (fun _ => rfl)))
  have e2 : mustV [⟨3, none, 0, []⟩] [] = 0 := rfl
  simp only [e2] at M2
  have B0 := (Below.refl w.heap.size w).alloc (Nat.le_refl _) (.cells #[.int .u64 (2 : Nat), .slice none 0 0] 39)
  clear R1 e1 e2
  have HH := hid h
  have HS := hid h'
  clear h h'
  go_enter Try.func5, Try.ntmps5
  go_wp2_with fail
  refine M1.out.mono ?_
  rintro e w1 ⟨rfl, b1⟩
  have B1 := bstep B0 b1
  have B1' := bstep B1 ((Below.refl w1.heap.size w1).alloc (Nat.le_refl _) (.cells #[.int .u64 (3 : Nat), .slice none 0 0] 39))
  clear B0 b1 M1 B1
  go_wp2_with fail
  refine (M2 _).out.mono ?_
  rintro e w2 ⟨rfl, b2⟩
  have B2 := bstep B1' b2
  clear B1' b2 M2
  by_cases hn : n ≤ 60
  · by_cases hm : m ≤ 60
    · have t1 : decide ((n : Int) > 60) = false := by rw [decide_eq_false_iff_not]; omega
      have t2 : decide ((m : Int) > 60) = false := by rw [decide_eq_false_iff_not]; omega
      go_wp2
      clear t1 t2
      go_loopw [7, 8, 9, 37] (fun x7 x8 x9 i0 wr => KRel w n rs ks t x7 x8 x9 i0 wr) (fun _ _ _ i0 _ => n - (intOf i0).toNat)
      case atStart => exact ⟨0, none, none, 0, by omega, rfl, rfl, rfl, rfl, hid ⟨Sl.nilS .u8 _ (by omega) (fun _ => rfl), by simp, rfl⟩, B2⟩
      case round =>
        clear B2
        obtain ⟨k, o, av, cv, hk, rfl, rfl, rfl, rfl, HO, hb⟩ := hrel
        by_cases hlt : k < n
        · obtain ⟨r, hr⟩ := get_some HL.out hlt
          obtain ⟨b, off, rfl, c0, c1, gd⟩ := (HH.out.below hb).cells hr
          have HR := hid hr
          have hrt := gd.1
          have hand := and1 gd.1
          have bb := (Below.refl wr.heap.size wr).alloc (Nat.le_refl _) (.cells #[.int .u64 (r.t : Int), .slice r.a r.v.length r.c] 39)
          have X := hid (BxR.new wr r.t (.slice r.a r.v.length r.c) 39)
          have BB := hid (bstep hb bb)
          have GD := hid (gd.below bb)
          have SO := hid (And.intro (HO.out.1.below bb) HO.out.2)
          have HS' := hid (HS.out.below BB.out)
          clear hr gd HO hb bb
          go_wp2
          generalize (wr.alloc (.cells #[.int .u64 (r.t : Int), .slice r.a r.v.length r.c] 39)) = W1 at *
          go_loopw [12, 47] (fun x12 j0 ww => ∃ j : Nat, j ≤ m ∧ j0 = .int .i64 j ∧ x12 = .bool (decide (r.t % 2 = 1 ∨ r.t ∈ ks.take j)) ∧ ww = W1) (fun _ j0 _ => m - (intOf j0).toNat)
          case atStart =>
            refine ⟨0, by omega, rfl, ?_, rfl⟩
            rcases Nat.mod_two_eq_zero_or_one r.t with e | e <;> simp [e] <;> omega
          case round =>
            obtain ⟨j, hj, rfl, rfl, rfl⟩ := hrel
            obtain ⟨x0, x1⟩ := X.out
            by_cases hjm : j < m
            · obtain ⟨b2, off2, rfl, hcx⟩ := sl_u64 HS'.out hjm
              have hd : ks[j]? = some (ks.getD j 0) := by rw [List.getD_eq_getElem?_getD, List.getElem?_eq_getElem (by rw [HK.out]; exact hjm)]; rfl
              have hy := getD_ltM hks (by decide) j
              generalize ks.getD j 0 = y at *
              have HT' := hid (has_true (x := r.t) hd)
              have HX' := hid (has_false (x := r.t) hd)
              clear hd hand
              generalize decide (r.t % 2 = 1 ∨ r.t ∈ ks.take j) = q at *
              cases q with
              | true =>
                have HQ := hid (HT'.out rfl)
                clear HX' HT'
                go_wp2
                go_roundw
                case rel => exact ⟨j + 1, by omega, by go_num, by rw [HQ.out], trivial⟩
                case measure => simp [intOf]; omega
              | false =>
                have HQ := hid (HX'.out rfl)
                clear HX' HT'
                go_wp2
                go_roundw
                case rel => exact ⟨j + 1, by omega, by go_num, by rw [HQ.out], trivial⟩
                case measure => simp [intOf]; omega
            · obtain rfl : j = m := by omega
              have hkk : ks.take j = ks := List.take_of_length_le (by rw [HK.out]; exact Nat.le_refl _)
              rw [hkk]
              have hsn := mustV_snoc (rs.take k) r ks
              have hfn := findV_snoc (rs.take k) r t
              rw [← take_succ_some HR.out] at hsn hfn
              obtain ⟨so1, so2, so3⟩ := SO.out
              rw [so3] at hfn
              have HSN := hid hsn
              have HFN := hid hfn
              have HV := hid (And.intro so1 so2)
              clear hsn hfn so1 so2 so3 SO hand hkk
              generalize decide (r.t % 2 = 1 ∨ r.t ∈ ks) = q at *
              generalize mustV (rs.take k) ks = mk at *
              have hB := BB.out
              by_cases he : r.t = t
              · have te : ((r.t : Int) == (t : Int)) = true := by simp [he]
                rw [if_pos he] at HFN
                cases q with
                | true =>
                  cases o with
                  | some xs =>
                    clear he
                    go_wp2
                    go_roundw
                    case rel => exact ⟨k + 1, some xs, av, cv, by omega, by go_num, by rw [HSN.out]; rfl, rfl, rfl, hid ⟨HV.out.1, HV.out.2, HFN.out⟩, hB⟩
                    case measure => simp [intOf]; omega
                  | none =>
                    clear he
                    go_wp2
                    go_roundw
                    case rel => exact ⟨k + 1, some r.v, r.a, r.c, by omega, by go_num, by rw [HSN.out]; rfl, rfl, rfl, hid ⟨GD.out.2.1, GD.out.2.2.1, HFN.out⟩, hB⟩
                    case measure => simp [intOf]; omega
                | false =>
                  cases o with
                  | some xs =>
                    clear he
                    go_wp2
                    go_roundw
                    case rel => exact ⟨k + 1, some xs, av, cv, by omega, by go_num, by rw [HSN.out]; rfl, rfl, rfl, hid ⟨HV.out.1, HV.out.2, HFN.out⟩, hB⟩
                    case measure => simp [intOf]; omega
                  | none =>
                    clear he
                    go_wp2
                    go_roundw
                    case rel => exact ⟨k + 1, some r.v, r.a, r.c, by omega, by go_num, by rw [HSN.out]; rfl, rfl, rfl, hid ⟨GD.out.2.1, GD.out.2.2.1, HFN.out⟩, hB⟩
                    case measure => simp [intOf]; omega
              · have te : ((r.t : Int) == (t : Int)) = false := by simp; omega
                rw [if_neg he] at HFN
                cases q with
                | true =>
                  clear he
                  go_wp2
                  go_roundw
                  case rel => exact ⟨k + 1, o, av, cv, by omega, by go_num, by rw [HSN.out]; rfl, rfl, rfl, hid ⟨HV.out.1, HV.out.2, by rw [HFN.out]; cases o <;> rfl⟩, hB⟩
                  case measure => simp [intOf]; omega
                | false =>
                  clear he
                  go_wp2
                  go_roundw
                  case rel => exact ⟨k + 1, o, av, cv, by omega, by go_num, by rw [HSN.out]; rfl, rfl, rfl, hid ⟨HV.out.1, HV.out.2, by rw [HFN.out]; cases o <;> rfl⟩, hB⟩
                  case measure => simp [intOf]; omega
        · obtain rfl : k = n := by omega
          rw [List.take_of_length_le (by rw [HL.out]; exact Nat.le_refl _)] at HO ⊢
          obtain ⟨s1, s2, s3⟩ := HO.out
          have C1 := hid (find_walk a k cap rs t (by omega) wr (HH.out.below hb))
          rw [s3] at C1
          have C2 := fun wx h1 h2 => hid (must_walk a a' k cap m cap' rs ks (by omega) (by omega) wx h1 h2)
          have hh := hid (And.intro s1 s2)
          have HB := hid hb
          clear HO s1 s2 s3
          generalize mustV rs ks = mk at *
          go_wp2_with fail
          refine C1.out.mono ?_
          rintro e w3 ⟨v, rfl, ⟨a3, c3, rfl, s3⟩, b3⟩
          have B3 := bstep HB.out b3
          have s4 := hh.out.1.below b3
          have hd4 := hh.out.2
          clear b3
          go_wp2_with fail
          refine (C2 _ (HH.out.below B3) (HS.out.below B3)).out.mono ?_
          rintro e w4 ⟨rfl, b4⟩
          have B4 := bstep B3 b4
          have s5 := s3.below b4
          have s6 := s4.below b4
          clear B3 b4 s3 s4
          go_wp2_with fail
          refine (same_self _ _ _ _ _ _ _ hd4 _ s5 s6).mono ?_
          rintro e w5 ⟨rfl, rfl⟩
          go_wp2
          go_ret
          exact ⟨rfl, B4⟩
    · have t1 : decide ((n : Int) > 60) = false := by rw [decide_eq_false_iff_not]; omega
      have t2 : decide ((m : Int) > 60) = true := by rw [decide_eq_true_eq]; omega
      go_wp2
      go_ret
      exact ⟨rfl, B2⟩
  · have t1 : decide ((n : Int) > 60) = true := by rw [decide_eq_true_eq]; omega
    go_wp2
    go_ret
    exact ⟨rfl, B2⟩
theorem lawKnown' (a : Option Addr) (l c : Nat) (rs : List LR) (a' : Option Addr) (m cap' : Nat) (ks : List Nat) (t : Nat) (hks : ∀ d ∈ ks, d < 18446744073709551616) (_ht : t < 18446744073709551616) (_hz : m * 8 ≤ 140737488351232) (w : World) (hl : rs.length = l) (h : SLo.good w 2 32 LR.cells (LR.good w) ⟨a, c, rs⟩) (h' : Sl .u64 w a' m cap' ks) :
    Calls Try.prog 5 #[.slice a l c, .slice a' m cap', .int .u64 t] w fun e w' => e = .returned (.bool true) ∧ Below w.heap.size w w' := by
  subst hl
  exact lawKnown a rs.length c rs a' m cap' ks t hks w (recs_of h) h'
end Go.Proofs.Ytfcnpmkpdikgeaa
