/- Plain facts on records as bytes. No program in sight. -/
import Derived.Test.YtgaidleepjkldaaTlvC
namespace Go.Proofs.Ytgaidleepjkldaa

abbrev Pr := Nat × List Nat
def encR (r : Pr) : List Nat := size r.1 ++ size r.2.length ++ r.2
def encAll (rs : List Pr) : List Nat := rs.flatMap encR
/-- what is wrong with records, the first of all -/
def encErr : Option Nat → List Pr → Nat
  | _, [] => 0
  | p, r :: s => if p.any (fun q => decide (r.1 ≤ q)) = true then 22 else if 65536 < r.2.length then 3 else encErr (some r.1) s
def encE (rs : List Pr) : Nat := if 256 < rs.length then 4 else encErr none rs
/-- the type of the record ahead -/
def prevT (rs : List Pr) (k : Nat) : Option Nat := match k with | 0 => none | j + 1 => rs[j]?.map (·.1)
theorem encErr_step {rs : List Pr} {k : Nat} {r : Pr} (h : rs[k]? = some r) : encErr (prevT rs k) (rs.drop k) = if (prevT rs k).any (fun q => decide (r.1 ≤ q)) = true then 22 else if 65536 < r.2.length then 3 else encErr (prevT rs (k + 1)) (rs.drop (k + 1)) := by
  have hk : k < rs.length := (List.getElem?_eq_some_iff.1 h).1
  have e : rs.drop k = r :: rs.drop (k + 1) := by
    rw [List.drop_eq_getElem_cons hk]
    congr 1
    rw [List.getElem?_eq_getElem hk] at h
    exact Option.some.inj h
  have e2 : prevT rs (k + 1) = some r.1 := by simp [prevT, h]
  rw [e, encErr, e2]
/-- the records of bytes; n: how many there were; p: the last one's type -/
def decGo : Nat → Option Nat → Nat → List Nat → List Pr × Nat
  | 0, _, _, _ => ([], 0)
  | _, _, _, [] => ([], 0)
  | f + 1, p, n, bs =>
    let a := readS bs
    if a.2.2 ≠ 0 then ([], a.2.2)
    else if p.any (fun q => decide (a.1 ≤ q)) = true then ([], 22)
    else
      let b1 := bs.drop a.2.1
      let c := readS b1
      if c.2.2 ≠ 0 then ([], c.2.2)
      else
        let b2 := b1.drop c.2.1
        if 65536 < c.1 then ([], 3)
        else if b2.length < c.1 then ([], 20)
        else if 256 ≤ n then ([], 4)
        else
          let t := decGo f (some a.1) (n + 1) (b2.drop c.1)
          if t.2 ≠ 0 then ([], t.2) else ((a.1, b2.take c.1) :: t.1, 0)
def decS (bs : List Nat) : List Pr × Nat := decGo (bs.length + 1) none 0 bs

theorem readS_len {bs : List Nat} (h : (readS bs).2.2 = 0) : 1 ≤ (readS bs).2.1 ∧ (readS bs).2.1 ≤ bs.length := by
  cases bs with
  | nil => simp [readS] at h
  | cons x t =>
    unfold readS at *
    by_cases h1 : folN x = 0
    · simp [h1]
    · by_cases h2 : t.length < folN x
      · simp [h1, h2] at h
      · by_cases h3 : beVal (t.take (folN x)) < folL x
        · simp [h1, h2, h3] at h
        · simp [h1, h2, h3]; omega
/-- more steps than bytes are no more than enough -/
theorem decGo_fuel : ∀ (f g : Nat) (p : Option Nat) (n : Nat) (bs : List Nat), bs.length < f → bs.length < g → decGo f p n bs = decGo g p n bs := by
  intro f
  induction f with
  | zero => intro g p n bs h; omega
  | succ f ih =>
    intro g p n bs hf hg
    cases g with
    | zero => omega
    | succ g =>
      cases bs with
      | nil => rfl
      | cons x t =>
        unfold decGo
        by_cases h1 : (readS (x :: t)).2.2 ≠ 0
        · simp [h1]
        · have hl := readS_len (by simpa using h1)
          have key : ∀ q m k j, decGo f q m (((((x :: t).drop (readS (x :: t)).2.1)).drop k).drop j) = decGo g q m (((((x :: t).drop (readS (x :: t)).2.1)).drop k).drop j) := by
            intro q m k j
            apply ih <;> (simp at *; omega)
          simp only [key]
/-- one step -/
theorem decGo_cons (p : Option Nat) (n : Nat) {bs : List Nat} (h0 : bs ≠ []) : decGo (bs.length + 1) p n bs =
    (if (readS bs).2.2 ≠ 0 then ([], (readS bs).2.2)
    else if p.any (fun q => decide ((readS bs).1 ≤ q)) = true then ([], 22)
    else if (readS (bs.drop (readS bs).2.1)).2.2 ≠ 0 then ([], (readS (bs.drop (readS bs).2.1)).2.2)
    else if 65536 < (readS (bs.drop (readS bs).2.1)).1 then ([], 3)
    else if ((bs.drop (readS bs).2.1).drop (readS (bs.drop (readS bs).2.1)).2.1).length < (readS (bs.drop (readS bs).2.1)).1 then ([], 20)
    else if 256 ≤ n then ([], 4)
    else (fun (b3 : List Nat) (v : List Nat) => (if (decGo (b3.length + 1) (some (readS bs).1) (n + 1) b3).2 ≠ 0 then (([] : List Pr), (decGo (b3.length + 1) (some (readS bs).1) (n + 1) b3).2) else (((readS bs).1, v) :: (decGo (b3.length + 1) (some (readS bs).1) (n + 1) b3).1, 0)))
      (((bs.drop (readS bs).2.1).drop (readS (bs.drop (readS bs).2.1)).2.1).drop (readS (bs.drop (readS bs).2.1)).1)
      (((bs.drop (readS bs).2.1).drop (readS (bs.drop (readS bs).2.1)).2.1).take (readS (bs.drop (readS bs).2.1)).1)) := by
  cases bs with
  | nil => exact absurd rfl h0
  | cons x t =>
    by_cases h1 : (readS (x :: t)).2.2 ≠ 0
    · rw [decGo]
      · simp [h1]
      · simp
    · have hl := readS_len (by simpa using h1)
      have hb3 : ((((x :: t).drop (readS (x :: t)).2.1).drop (readS ((x :: t).drop (readS (x :: t)).2.1)).2.1).drop (readS ((x :: t).drop (readS (x :: t)).2.1)).1).length < (x :: t).length := by
        simp at *; omega
      rw [decGo]
      · simp only [decGo_fuel _ (((((x :: t).drop (readS (x :: t)).2.1).drop (readS ((x :: t).drop (readS (x :: t)).2.1)).2.1).drop (readS ((x :: t).drop (readS (x :: t)).2.1)).1).length + 1) _ _ _ hb3 (Nat.lt_succ_self _)]
      · simp
end Go.Proofs.Ytgaidleepjkldaa
