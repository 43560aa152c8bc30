/- Plain: what bytes' records are, their bytes are again. No program in sight. -/
import Derived.Test.YtnbmpgballopeaaDoorZChf
import Derived.Test.YtnbmpgballopeaaDoorZDec
import Derived.Test.YtnbmpgballopeaaDoorZChv
namespace Go.Proofs.YtnbmpgballopeaaDoor
theorem dig_mod (x i j : Nat) : x % 256 ^ (i + (j + 1)) / 256 ^ i % 256 = x / 256 ^ i % 256 := by
 rw [Nat.pow_add, Nat.mod_mul_right_div_self, Nat.mod_mod_of_dvd]
 exact ⟨256 ^ j, by rw [Nat.pow_succ, Nat.mul_comm]⟩
theorem be_mod : ∀ (n m x : Nat), n ≤ m → be n (x % 256 ^ m) = be n x := by
 intro n
 induction n with
 | zero => intros; rfl
 | succ n ih =>
  intro m x h
  obtain ⟨j, rfl⟩ : ∃ j, m = n + (j + 1) := ⟨m - n - 1, by omega⟩
  rw [be, be, dig_mod, ih _ _ (by omega)]
theorem beVal_cons (y : Nat) (r : List Nat) : beVal (y :: r) = y * 256 ^ r.length + beVal r := by
 have key : ∀ (l : List Nat) (s : Nat), l.foldl (fun x c => x * 256 + c) s = s * 256 ^ l.length + l.foldl (fun x c => x * 256 + c) 0 := by
  intro l
  induction l with
  | nil => simp
  | cons c r ih =>
   intro s
   simp only [List.foldl_cons, List.length_cons]
   rw [ih (s * 256 + c), ih (0 * 256 + c), Nat.pow_succ]
   generalize 256 ^ r.length = p
   rw [Nat.add_mul, Nat.zero_mul, Nat.zero_add, Nat.mul_assoc, Nat.mul_comm 256 p, Nat.add_assoc]
 show List.foldl _ _ (y :: r) = _
 rw [List.foldl_cons, key]
 simp [beVal]
theorem be_beVal (ys : List Nat) (h : ∀ d ∈ ys, d < 256) : be ys.length (beVal ys) = ys := by
 induction ys with
 | nil => rfl
 | cons y r ih =>
  have hy := h y (by simp)
  have hr := beVal_lt r (fun d hd => h d (by simp [hd]))
  have ihr := ih (fun d hd => h d (by simp [hd]))
  rw [beVal_cons, List.length_cons, be]
  have e1 : (y * 256 ^ r.length + beVal r) / 256 ^ r.length = y := by
   rw [Nat.mul_comm, Nat.mul_add_div (Nat.pow_pos (by omega)), Nat.div_eq_of_lt hr, Nat.add_zero]
  rw [e1, Nat.mod_eq_of_lt hy]
  congr 1
  rw [← be_mod _ _ (y * 256 ^ r.length + beVal r) (Nat.le_refl _)]
  have e2 : (y * 256 ^ r.length + beVal r) % 256 ^ r.length = beVal r := by
   rw [Nat.mul_comm, Nat.mul_add_mod, Nat.mod_eq_of_lt hr]
  rw [e2]
  exact ihr
theorem readS_canon {xs : List Nat} {t m : Nat} (h : readS xs = (t, m, 0)) (hx : ∀ d ∈ xs, d < 256) : xs = size t ++ xs.drop m := by
 cases xs with
 | nil => simp [readS] at h
 | cons x r =>
  have hr : ∀ n, ∀ d ∈ r.take n, d < 256 := fun n d hd => hx d (by simp [List.mem_of_mem_take hd])
  have hx1 := hx x (by simp)
  unfold readS at h
  simp only at h
  by_cases h0 : folN x = 0
  ·rw [if_pos h0] at h
   simp only [Prod.mk.injEq] at h
   obtain ⟨rfl, rfl, _⟩ := h
   have hlt : x < 253 := by
    unfold folN at h0
    (repeat' split at h0) <;> omega
   simp [size, hlt]
  ·rw [if_neg h0] at h
   by_cases h1 : r.length < folN x
   ·rw [if_pos h1] at h; simp at h
   ·rw [if_neg h1] at h
    by_cases h2 : beVal (r.take (folN x)) < folL x
    ·rw [if_pos h2] at h; simp at h
    ·rw [if_neg h2] at h
     simp only [Prod.mk.injEq] at h
     obtain ⟨rfl, rfl, _⟩ := h
     have hl : (r.take (folN x)).length = folN x := by simp; omega
     have hb := be_beVal _ (hr (folN x))
     have hv := beVal_lt _ (hr (folN x))
     rw [hl] at hb hv
     rw [List.drop_succ_cons]
     have e : r = r.take (folN x) ++ r.drop (folN x) := (List.take_append_drop _ _).symm
     have key : size (beVal (r.take (folN x))) = x :: be (folN x) (beVal (r.take (folN x))) := by
      generalize beVal (r.take (folN x)) = z at *
      unfold folN folL at *
      by_cases q1 : x = 253
      ·subst q1; simp at *; unfold size; rw [if_neg (by omega), if_pos (by omega)]
      ·by_cases q2 : x = 254
       ·subst q2; simp at *; unfold size; rw [if_neg (by omega), if_neg (by omega), if_pos (by omega)]
       ·by_cases q3 : x = 255
        ·subst q3; simp at *; unfold size; rw [if_neg (by omega), if_neg (by omega), if_neg (by omega)]
        ·simp [q1, q2, q3] at h0
     rw [key, hb, List.cons_append]
     rw [← e]
theorem dec_enc : ∀ (f : Nat) (p : Option Nat) (n : Nat) (xs : List Nat), xs.length < f → (∀ d ∈ xs, d < 256) → (decGo f p n xs).2 = 0 → encErr p (decGo f p n xs).1 = 0 ∧ encAll (decGo f p n xs).1 = xs ∧ (n ≤ 256 → (decGo f p n xs).1.length + n ≤ 256) := by
 intro f
 induction f with
 | zero => intro p n xs h; omega
 | succ f ih =>
  intro p n xs hf hx hz
  cases hxs : xs with
  | nil => simp [decGo, encErr, encAll]
  | cons x r =>
   rw [← hxs]
   have hne : xs ≠ [] := by rw [hxs]; simp
   rw [decGo_fuel (f + 1) (xs.length + 1) p n xs hf (Nat.lt_succ_self _)] at hz ⊢
   rw [decGo_cons p n hne] at hz ⊢
   obtain ⟨⟨t, m, e⟩, hR⟩ : ∃ R, readS xs = R := ⟨_, rfl⟩
   rw [hR] at hz ⊢
   simp only at hz ⊢
   by_cases h1 : e ≠ 0
   ·rw [if_pos h1] at hz; exact absurd hz h1
   ·rw [if_neg h1] at hz ⊢
    have he : e = 0 := by simpa using h1
    subst he
    by_cases h2 : p.any (fun q => decide (t ≤ q)) = true
    ·rw [if_pos h2] at hz; simp at hz
    ·rw [if_neg h2] at hz ⊢
     have c1 := readS_canon hR hx
     have l1 := readS_len (bs := xs) (by rw [hR])
     rw [hR] at l1
     have hx2 : ∀ d ∈ xs.drop m, d < 256 := fun d hd => hx d (List.mem_of_mem_drop hd)
     obtain ⟨⟨sz, k, e2⟩, hS⟩ : ∃ R, readS (xs.drop m) = R := ⟨_, rfl⟩
     rw [hS] at hz ⊢
     simp only at hz ⊢
     by_cases h3 : e2 ≠ 0
     ·rw [if_pos h3] at hz; exact absurd hz h3
     ·rw [if_neg h3] at hz ⊢
      have he2 : e2 = 0 := by simpa using h3
      subst he2
      have c2 := readS_canon hS hx2
      by_cases h4 : 65536 < sz
      ·rw [if_pos h4] at hz; simp at hz
      ·rw [if_neg h4] at hz ⊢
       by_cases h5 : ((xs.drop m).drop k).length < sz
       ·rw [if_pos h5] at hz; simp at hz
       ·rw [if_neg h5] at hz ⊢
        by_cases h6 : 256 ≤ n
        ·rw [if_pos h6] at hz; simp at hz
        ·rw [if_neg h6] at hz ⊢
         have hx3 : ∀ d ∈ ((xs.drop m).drop k).drop sz, d < 256 := fun d hd => hx2 d (List.mem_of_mem_drop (List.mem_of_mem_drop hd))
         have hlt : (((xs.drop m).drop k).drop sz).length < f := by
          have : 1 ≤ m ∧ m ≤ xs.length := l1
          simp; omega
         have IH := ih (some t) (n + 1) (((xs.drop m).drop k).drop sz) hlt hx3
         rw [decGo_fuel f ((((xs.drop m).drop k).drop sz).length + 1) _ _ _ hlt (Nat.lt_succ_self _)] at IH
         generalize hu : decGo ((((xs.drop m).drop k).drop sz).length + 1) (some t) (n + 1) (((xs.drop m).drop k).drop sz) = u at *
         by_cases h7 : u.2 ≠ 0
         ·rw [if_pos h7] at hz; exact absurd hz h7
         ·rw [if_neg h7]
          obtain ⟨i1, i2, i3⟩ := IH (by simpa using h7)
          have htk : (((xs.drop m).drop k).take sz).length = sz := by rw [List.length_take]; omega
          refine ⟨?_, ?_, fun hn => ?_⟩
          ·rw [encErr, if_neg h2, if_neg (by show ¬ 65536 < (((xs.drop m).drop k).take sz).length; rw [htk]; exact h4)]
           exact i1
          ·show encR (t, ((xs.drop m).drop k).take sz) ++ encAll u.1 = xs
           rw [i2, encR]
           simp only
           rw [htk]
           conv => rhs; rw [c1, c2]
           rw [List.append_assoc, List.append_assoc, List.take_append_drop]
          ·have := i3 (by omega)
           simp only [List.length_cons]; omega
theorem decS_enc {bs : List Nat} (hx : ∀ d ∈ bs, d < 256) (h : (decS bs).2 = 0) : encE (decS bs).1 = 0 ∧ encAll (decS bs).1 = bs := by
 obtain ⟨h1, h2, h3⟩ := dec_enc (bs.length + 1) none 0 bs (Nat.lt_succ_self _) hx h
 refine ⟨?_, h2⟩
 have h3' := h3 (by omega)
 unfold encE
 rw [if_neg (by show ¬ 256 < (decGo (bs.length + 1) none 0 bs).1.length; omega)]
 exact h1
end Go.Proofs.YtnbmpgballopeaaDoor
/- Plain: records' bytes read again are they. No program in sight. -/
namespace Go.Proofs.YtnbmpgballopeaaDoor
end Go.Proofs.YtnbmpgballopeaaDoor
/- Plain: the transaction that bytes are; its bytes are just these; a transaction's bytes read again are it. No program in sight. -/
namespace Go.Proofs.YtnbmpgballopeaaDoor
def inQ (i : InD) : List Nat := i.tx ++ (f4 i.out ++ ((i.path % 256).toNat :: (i.token ++ (i.more ++ i.secret))))
def OutD.bare (o : OutD) : OutD := ⟨o.coins, none, 0, o.paths, o.anchor⟩
def rdIn (v : List Nat) : InD := ⟨v.take 32, ((v.getD 35 0 : Nat) : Int), ((v.getD 36 0 : Nat) : Int), (v.drop 37).take 32, (v.drop 69).take 32, (v.drop 101).take 32⟩
def joinI {α : Type} (l : List α) (t : List α × Nat) : List α × Nat := if t.2 ≠ 0 then ([], t.2) else (l ++ t.1, 0)
theorem joinI_nil {α : Type} (t : List α × Nat) (h : t.2 ≠ 0 → t.1 = []) : joinI [] t = t := by
 unfold joinI
 split
 ·rename_i h0; rw [← h h0]
 ·rename_i h0
  have : t.2 = 0 := by simpa using h0
  rw [← this]; rfl
theorem joinI_join {α : Type} (a b : List α) (t : List α × Nat) : joinI a (joinI b t) = joinI (a ++ b) t := by
 unfold joinI
 by_cases h : t.2 ≠ 0
 ·simp [h]
 ·simp at h; simp [h]
def insD : Nat → List Nat → List InD × Nat
 | 0, _ => ([], 0)
 | f + 1, v => if v = [] then ([], 0) else if v.length < 36 then ([], 20) else if (getP (v.take 36)).2.2 ≠ 0 then ([], (getP (v.take 36)).2.2)
  else if v.length < 133 then ([], 20) else joinI [rdIn v] (insD f (v.drop 133))
def insR (v : List Nat) : List InD × Nat := insD (v.length + 1) v
def rdPath (v : List Nat) : PathD := ⟨v.take 32, (v.drop 32).take 32, (v.drop 64).take 32, ((beVal ((v.drop 96).take 4) : Nat) : Int), ((beVal ((v.drop 100).take 4) : Nat) : Int)⟩
def pathsD : Nat → List Nat → List PathD
 | 0, _ => []
 | n + 1, v => rdPath v :: pathsD n (v.drop 104)
def rdOut (v : List Nat) : OutD := ⟨beVal (v.take 8), none, 0, pathsD (v.getD 40 0) (v.drop 41), (v.drop 8).take 32⟩
def outsD : Nat → List Nat → List OutD × Nat
 | 0, _ => ([], 0)
 | f + 1, v => if v = [] then ([], 0) else if v.length < 41 ∨ v.length < 41 + 104 * v.getD 40 0 then ([], 20) else joinI [rdOut v] (outsD f (v.drop (41 + 104 * v.getD 40 0)))
def outsR (v : List Nat) : List OutD × Nat := outsD (v.length + 1) v
def codeP (is : List InD) (os : List OutD) : Nat := (TxD.mk none 0 is none 0 os).code
def decT (bs : List Nat) : (List InD × List OutD) × Nat :=
 if (decS bs).2 ≠ 0 then (([], []), (decS bs).2) else
 match (decS bs).1 with
 | [a, b] => if a.1 = 0 ∧ b.1 = 2 then
   if (insR a.2).2 ≠ 0 then (([], []), (insR a.2).2) else if (outsR b.2).2 ≠ 0 then (([], []), (outsR b.2).2)
   else if codeP (insR a.2).1 (outsR b.2).1 ≠ 0 then (([], []), codeP (insR a.2).1 (outsR b.2).1) else (((insR a.2).1, (outsR b.2).1), 0)
   else (([], []), 21)
 | _ => (([], []), 21)
def recsT (is : List InD) (os : List OutD) : List Pr := [(0, is.flatMap inQ), (2, os.flatMap outB)]
theorem insD_fuel : ∀ (f g : Nat) (v : List Nat), v.length < f → v.length < g → insD f v = insD g v := by
 intro f
 induction f with
 | zero => intro g v h; omega
 | succ f ih =>
  intro g v hf hg
  cases g with
  | zero => omega
  | succ g =>
   unfold insD
   (repeat' split) <;> try rfl
   rename_i h0 h1 h2 h3
   rw [ih g _ (by rw [List.length_drop]; omega) (by rw [List.length_drop]; omega)]
theorem outsD_fuel : ∀ (f g : Nat) (v : List Nat), v.length < f → v.length < g → outsD f v = outsD g v := by
 intro f
 induction f with
 | zero => intro g v h; omega
 | succ f ih =>
  intro g v hf hg
  cases g with
  | zero => omega
  | succ g =>
   unfold outsD
   (repeat' split) <;> try rfl
   rename_i h0 h1
   rw [ih g _ (by rw [List.length_drop]; omega) (by rw [List.length_drop]; omega)]
theorem insR_nil : insR [] = ([], 0) := rfl
theorem insR_short {v : List Nat} (h0 : v ≠ []) (h : v.length < 36) : insR v = ([], 20) := by unfold insR insD; rw [if_neg h0, if_pos h]
theorem insR_pt {v : List Nat} (h : ¬ v.length < 36) (h2 : (getP (v.take 36)).2.2 ≠ 0) : insR v = ([], (getP (v.take 36)).2.2) := by
 unfold insR insD; rw [if_neg (by rintro rfl; simp at h), if_neg h, if_pos h2]
theorem insR_short2 {v : List Nat} (h : ¬ v.length < 36) (h2 : (getP (v.take 36)).2.2 = 0) (h3 : v.length < 133) : insR v = ([], 20) := by
 unfold insR insD; rw [if_neg (by rintro rfl; simp at h), if_neg h, if_neg (by omega), if_pos h3]
theorem insR_step {v : List Nat} (h2 : (getP (v.take 36)).2.2 = 0) (h3 : ¬ v.length < 133) : insR v = joinI [rdIn v] (insR (v.drop 133)) := by
 unfold insR
 rw [insD, if_neg (by rintro rfl; simp at h3), if_neg (by omega), if_neg (by omega), if_neg h3]
 rw [insD_fuel v.length ((v.drop 133).length + 1) _ (by rw [List.length_drop]; omega) (by omega)]
theorem outsR_nil : outsR [] = ([], 0) := rfl
theorem outsR_short {v : List Nat} (h0 : v ≠ []) (h : v.length < 41 ∨ v.length < 41 + 104 * v.getD 40 0) : outsR v = ([], 20) := by unfold outsR outsD; rw [if_neg h0, if_pos h]
theorem outsR_step {v : List Nat} (h : ¬ v.length < 41 + 104 * v.getD 40 0) : outsR v = joinI [rdOut v] (outsR (v.drop (41 + 104 * v.getD 40 0))) := by
 unfold outsR
 rw [outsD, if_neg (by rintro rfl; simp at h), if_neg (by omega)]
 rw [outsD_fuel v.length ((v.drop (41 + 104 * v.getD 40 0)).length + 1) _ (by rw [List.length_drop]; omega) (by omega)]
theorem insR_bad : ∀ (f : Nat) (v : List Nat), (insD f v).2 ≠ 0 → (insD f v).1 = [] := by
 intro f
 cases f with
 | zero => intro v _; rfl
 | succ f =>
  intro v h
  unfold insD at h ⊢
  (repeat' split) <;> try rfl
  rename_i h0 h1 h2 h3
  rw [if_neg h0, if_neg h1, if_neg h2, if_neg h3] at h
  unfold joinI at h ⊢
  split
  ·rfl
  ·rename_i h4; rw [if_neg h4] at h; exact absurd rfl h
theorem outsR_bad : ∀ (f : Nat) (v : List Nat), (outsD f v).2 ≠ 0 → (outsD f v).1 = [] := by
 intro f
 cases f with
 | zero => intro v _; rfl
 | succ f =>
  intro v h
  unfold outsD at h ⊢
  (repeat' split) <;> try rfl
  rename_i h0 h1
  rw [if_neg h0, if_neg h1] at h
  unfold joinI at h ⊢
  split
  ·rfl
  ·rename_i h4; rw [if_neg h4] at h; exact absurd rfl h
theorem f4_be {n : Nat} : f4 (n : Int) = be 4 n := by
 unfold f4
 simp only [be, List.cons.injEq, and_true]
 refine ⟨?_, ?_, ?_, ?_⟩ <;> omega
theorem f4_of {ys : List Nat} (hl : ys.length = 4) (h : ∀ d ∈ ys, d < 256) : f4 ((beVal ys : Nat) : Int) = ys := by
 rw [f4_be, ← hl]; exact be_beVal ys h
theorem f4_pair {n : Nat} (h : n < 18446744073709551616) : f4 ((n / 4294967296 : Nat) : Int) ++ f4 (IntKind.i64.wrap (n : Int)) = be 8 n := by
 have e : f4 (IntKind.i64.wrap (n : Int)) = f4 (n : Int) := by
  unfold f4
  have hw : IntKind.i64.wrap (n : Int) = (n : Int) ∨ IntKind.i64.wrap (n : Int) = (n : Int) - 18446744073709551616 := by
   unfold IntKind.wrap
   simp only [IntKind.signed, IntKind.bits]
   omega
  rcases hw with hw | hw
  ·rw [hw]
  ·rw [hw]
   simp only [List.cons.injEq, and_true]
   refine ⟨?_, ?_, ?_, ?_⟩ <;> omega
 rw [e, f4_be, f4_be]
 simp only [be, List.cons_append, List.nil_append, List.cons.injEq, and_true]
 omega
theorem take_take {α : Type} (v : List α) (a b : Nat) : v.take a ++ (v.drop a).take b = v.take (a + b) := by rw [List.take_add]
theorem drop_one {v : List Nat} {k : Nat} (h : k < v.length) : (v.drop k).take 1 = [v.getD k 0] := by
 rw [List.drop_eq_getElem_cons h, List.take_succ_cons, List.take_zero, List.getD_eq_getElem?_getD, List.getElem?_eq_getElem h]; rfl
theorem inQ_rd {v : List Nat} (hv : ∀ d ∈ v, d < 256) (h2 : (getP (v.take 36)).2.2 = 0) (h3 : ¬ v.length < 133) : inQ (rdIn v) = v.take 133 := by
 have hl : (v.take 36).length = 36 := by rw [List.length_take]; omega
 have hg : ∀ k, k < 36 → (v.take 36).getD k 0 = v.getD k 0 := fun k hk => by simp [List.getD, hk]
 unfold getP at h2
 rw [if_pos hl, hg 32 (by omega), hg 33 (by omega), hg 34 (by omega)] at h2
 have hz : v.getD 32 0 = 0 ∧ v.getD 33 0 = 0 ∧ v.getD 34 0 = 0 := by
  by_cases hq : v.getD 32 0 = 0 ∧ v.getD 33 0 = 0 ∧ v.getD 34 0 = 0
  ·exact hq
  ·rw [if_neg hq] at h2; simp at h2
 have hb : ∀ k, v.getD k 0 < 256 := fun k => getD_ltM hv (by decide) k
 have e4 : f4 ((v.getD 35 0 : Nat) : Int) = (v.drop 32).take 4 := by
  have e : (v.drop 32).take 4 = [v.getD 32 0, v.getD 33 0, v.getD 34 0, v.getD 35 0] := by
   have a := take_take (v.drop 32) 1 3
   have b := take_take (v.drop 33) 1 2
   have c := take_take (v.drop 34) 1 1
   simp only [List.drop_drop, Nat.reduceAdd] at a b c
   rw [← a, ← b, ← c, drop_one (by omega), drop_one (by omega), drop_one (by omega), drop_one (by omega)]; rfl
  rw [e, hz.1, hz.2.1, hz.2.2, f4_be]
  have := hb 35
  simp only [be, List.cons.injEq, and_true]
  refine ⟨?_, ?_, ?_, ?_⟩ <;> omega
 have e1 : ((((v.getD 36 0 : Nat) : Int) % 256).toNat) = v.getD 36 0 := by have := hb 36; omega
 unfold inQ rdIn
 simp only
 rw [e4, e1, ← List.singleton_append, ← drop_one (by omega)]
 have a1 := take_take (v.drop 69) 32 32
 have a2 := take_take (v.drop 37) 32 64
 have a3 := take_take (v.drop 36) 1 96
 have a4 := take_take (v.drop 32) 4 97
 simp only [List.drop_drop, Nat.reduceAdd] at a1 a2 a3 a4
 rw [a1, a2, a3, a4, take_take]
theorem pathB_rd {v : List Nat} (hv : ∀ d ∈ v, d < 256) (h : ¬ v.length < 104) : pathB (rdPath v) = v.take 104 := by
 unfold pathB rdPath
 simp only
 rw [f4_of (by rw [List.length_take, List.length_drop]; omega) (fun d hd => hv d (List.mem_of_mem_drop (List.mem_of_mem_take hd))), f4_of (by rw [List.length_take, List.length_drop]; omega) (fun d hd => hv d (List.mem_of_mem_drop (List.mem_of_mem_take hd)))]
 have a1 := take_take (v.drop 96) 4 4
 have a2 := take_take (v.drop 64) 32 8
 have a3 := take_take (v.drop 32) 32 40
 simp only [List.drop_drop, Nat.reduceAdd] at a1 a2 a3
 rw [a1, a2, a3, take_take]
theorem pathsB_rd : ∀ (n : Nat) (v : List Nat), (∀ d ∈ v, d < 256) → ¬ v.length < 104 * n → (pathsD n v).flatMap pathB = v.take (104 * n) ∧ (pathsD n v).length = n := by
 intro n
 induction n with
 | zero => intro v _ _; simp [pathsD]
 | succ n ih =>
  intro v hv h
  obtain ⟨i1, i2⟩ := ih (v.drop 104) (fun d hd => hv d (List.mem_of_mem_drop hd)) (by rw [List.length_drop]; omega)
  rw [pathsD, List.flatMap_cons, i1, pathB_rd hv (by omega), take_take]
  exact ⟨by congr 1; omega, by rw [List.length_cons, i2]⟩
theorem outB_rd {v : List Nat} (hv : ∀ d ∈ v, d < 256) (h : ¬ v.length < 41 + 104 * v.getD 40 0) : outB (rdOut v) = v.take (41 + 104 * v.getD 40 0) := by
 have hd8 : ∀ n, ∀ d ∈ v.take n, d < 256 := fun n d hd => hv d (List.mem_of_mem_take hd)
 have l8 : (v.take 8).length = 8 := by rw [List.length_take]; omega
 have hb := beVal_lt _ (hd8 8)
 have e8 := be_beVal _ (hd8 8)
 rw [l8] at hb e8
 obtain ⟨p1, p2⟩ := pathsB_rd (v.getD 40 0) (v.drop 41) (fun d hd => hv d (List.mem_of_mem_drop hd)) (by rw [List.length_drop]; omega)
 unfold outB rdOut
 simp only
 rw [← List.append_assoc, f4_pair (by simpa using hb), e8, p1, p2, ← List.singleton_append, ← drop_one (by omega)]
 have a2 := take_take (v.drop 40) 1 (104 * v.getD 40 0)
 have a3 := take_take (v.drop 8) 32 (1 + 104 * v.getD 40 0)
 simp only [List.drop_drop, Nat.reduceAdd] at a2 a3
 rw [a2, a3, take_take]
 congr 1; omega
theorem insR_back : ∀ (n : Nat) (v : List Nat), v.length ≤ n → (∀ d ∈ v, d < 256) → (insR v).2 = 0 → (insR v).1.flatMap inQ = v := by
 intro n
 induction n with
 | zero =>
  intro v h _ _
  have : v = [] := List.length_eq_zero_iff.1 (by omega)
  subst this; rfl
 | succ n ih =>
  intro v h hv hz
  by_cases h0 : v = []
  ·subst h0; rfl
  ·by_cases h1 : v.length < 36
   ·rw [insR_short h0 h1] at hz; simp at hz
   ·by_cases h2 : (getP (v.take 36)).2.2 ≠ 0
    ·rw [insR_pt h1 h2] at hz; exact absurd hz h2
    ·have h2' : (getP (v.take 36)).2.2 = 0 := by simpa using h2
     by_cases h3 : v.length < 133
     ·rw [insR_short2 h1 h2' h3] at hz; simp at hz
     ·rw [insR_step h2' h3] at hz ⊢
      unfold joinI at hz ⊢
      split
      ·rename_i h4; rw [if_pos h4] at hz; exact absurd hz h4
      ·rename_i h4
       have := ih (v.drop 133) (by rw [List.length_drop]; omega) (fun d hd => hv d (List.mem_of_mem_drop hd)) (by simpa using h4)
       rw [List.singleton_append, List.flatMap_cons, this, inQ_rd hv h2' h3, List.take_append_drop]
theorem outsR_back : ∀ (n : Nat) (v : List Nat), v.length ≤ n → (∀ d ∈ v, d < 256) → (outsR v).2 = 0 → (outsR v).1.flatMap outB = v := by
 intro n
 induction n with
 | zero =>
  intro v h _ _
  have : v = [] := List.length_eq_zero_iff.1 (by omega)
  subst this; rfl
 | succ n ih =>
  intro v h hv hz
  by_cases h0 : v = []
  ·subst h0; rfl
  ·by_cases h1 : v.length < 41 + 104 * v.getD 40 0
   ·rw [outsR_short h0 (.inr h1)] at hz; simp at hz
   ·rw [outsR_step h1] at hz ⊢
    unfold joinI at hz ⊢
    split
    ·rename_i h4; rw [if_pos h4] at hz; exact absurd hz h4
    ·rename_i h4
     have := ih (v.drop (41 + 104 * v.getD 40 0)) (by rw [List.length_drop]; omega) (fun d hd => hv d (List.mem_of_mem_drop hd)) (by simpa using h4)
     rw [List.singleton_append, List.flatMap_cons, this, outB_rd hv h1, List.take_append_drop]
theorem decT_back {bs : List Nat} (hx : ∀ d ∈ bs, d < 256) (h : (decT bs).2 = 0) : codeP (decT bs).1.1 (decT bs).1.2 = 0 ∧ encE (recsT (decT bs).1.1 (decT bs).1.2) = 0 ∧ encAll (recsT (decT bs).1.1 (decT bs).1.2) = bs := by
 unfold decT at h ⊢
 by_cases h1 : (decS bs).2 ≠ 0
 ·rw [if_pos h1] at h; exact absurd h h1
 ·rw [if_neg h1] at h ⊢
  have h1' : (decS bs).2 = 0 := by simpa using h1
  obtain ⟨E0, EA⟩ := decS_enc hx h1'
  have hb : ∀ r ∈ (decS bs).1, ∀ d ∈ r.2, d < 256 := by
   intro r hr d hd
   refine hx d ?_
   rw [← EA]
   unfold encAll encR
   exact List.mem_flatMap.2 ⟨r, hr, by simp [hd]⟩
  generalize (decS bs).1 = L at *
  match L, hb, E0, EA, h with
  | [a, b], hb, E0, EA, h =>
   simp only at h ⊢
   split at h
   ·rename_i hab
    rw [if_pos hab]
    split at h
    ·rename_i h3; exact absurd h h3
    ·rename_i h3
     split at h
     ·rename_i h4; exact absurd h h4
     ·rename_i h4
      split at h
      ·rename_i h5; exact absurd h h5
      ·rename_i h5
       rw [if_neg h3, if_neg h4, if_neg h5]
       have b1 := insR_back a.2.length a.2 (Nat.le_refl _) (hb a (by simp)) (by simpa using h3)
       have b2 := outsR_back b.2.length b.2 (Nat.le_refl _) (hb b (by simp)) (by simpa using h4)
       have e : recsT (insR a.2).1 (outsR b.2).1 = [a, b] := by
        unfold recsT
        rw [b1, b2, ← hab.1, ← hab.2]
       simp only
       rw [e]
       exact ⟨by simpa using h5, E0, EA⟩
   ·simp at h
  | [], _, _, _, h => simp at h
  | [_], _, _, _, h => simp at h
  | _ :: _ :: _ :: _, _, _, _, h => simp at h
end Go.Proofs.YtnbmpgballopeaaDoor
/- Plain: a transaction's bytes read again are it. No program in sight. -/
namespace Go.Proofs.YtnbmpgballopeaaDoor
theorem inQ_len {i : InD} (h : i.ok) : (inQ i).length = 133 := by simp [inQ, h.tx.1, h.token.1, h.more.1, h.secret.1, f4_len]
theorem outsC_bare : ∀ (os : List OutD), outsC (os.map OutD.bare) = outsC os
 | [] => rfl
 | o :: r => by
  have e : o.bare.code = o.code := rfl
  rw [List.map_cons, outsC, outsC, e, outsC_bare r]
theorem codeP_bare (is : List InD) (os : List OutD) : codeP is (os.map OutD.bare) = codeP is os := by
 have e : (os.map OutD.bare).map OutD.coins = os.map OutD.coins := by rw [List.map_map]; rfl
 unfold codeP TxD.code
 simp only [List.length_map, outsC_bare, e]
theorem codeP_tx (t : TxD) : codeP t.ins t.outs = t.code := rfl
end Go.Proofs.YtnbmpgballopeaaDoor
