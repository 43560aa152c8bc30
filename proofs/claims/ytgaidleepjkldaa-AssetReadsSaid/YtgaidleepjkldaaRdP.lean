/- Plain facts on the number with which bytes begin. No program in sight. -/
import Derived.Test.YtgaidleepjkldaaTlv
namespace Go.Proofs.Ytgaidleepjkldaa

/-- the number that bytes are, the highest first -/
def beVal (bs : List Nat) : Nat := bs.foldl (fun x c => x * 256 + c) 0
theorem beVal_snoc (bs : List Nat) (c : Nat) : beVal (bs ++ [c]) = beVal bs * 256 + c := by simp [beVal]
theorem beVal_lt (bs : List Nat) (h : ∀ d ∈ bs, d < 256) : beVal bs < 256 ^ bs.length := by
  rcases List.eq_nil_or_concat bs with rfl | ⟨ys, d, rfl⟩
  · simp [beVal]
  · rw [List.concat_eq_append] at *
    have ih := beVal_lt ys (fun e he => h e (by simp [he]))
    have hd := h d (by simp)
    rw [beVal_snoc, List.length_append, List.length_singleton, Nat.pow_succ]
    omega
termination_by bs.length
/-- how many bytes follow a first byte; what the number must be at least -/
def folN (h : Nat) : Nat := if h = 253 then 2 else if h = 254 then 4 else if h = 255 then 8 else 0
def folL (h : Nat) : Nat := if h = 253 then 253 else if h = 254 then 65536 else if h = 255 then 4294967296 else 0
/-- the number, how many bytes, the error -/
def readS (bs : List Nat) : Nat × Nat × Nat :=
  match bs with
  | [] => (0, 0, 20)
  | h :: t => if folN h = 0 then (h, 1, 0) else if t.length < folN h then (0, 0, 20) else if beVal (t.take (folN h)) < folL h then (0, 0, 21) else (beVal (t.take (folN h)), folN h + 1, 0)
end Go.Proofs.Ytgaidleepjkldaa
