/- Slices of bytes: their type's rows, strings made of them. -/
import Derived.Test.YtllckpcggmfmkaaDoorMem
import Derived.Laws.BytesArg
namespace Go.Proofs.YtllckpcggmfmkaaDoor
open Go.RowKit

theorem infoU8 : (Tryd.prog.info? 5).map (fun i => (i.zero, i.size, i.bytes)) = some (some (.int .u8 0), 1, 1) := by kernel_rfl
theorem tyBs : SliceTy Tryd.prog 23 5 1 1 (.int .u8 0) := .mk' Tryd.underlying23 infoU8 rfl (by decide)

def bytesOf (xs : List Nat) : ByteArray := strOfNums (xs.map (fun (d : Nat) => (d : Int)))
theorem conv_bytes {P : Program} {w : World} {a : Option Addr} {n cap : Nat} {xs : List Nat} (h : Sl .u8 w a n cap xs) {src e dst : TypeId} (hs : P.underlying src = some (.slice e)) (he : P.underlying e = some (.int .u8)) (hd : P.underlying dst = some .string) :
    (convert src dst (.slice a n cap)).run P w = .ok (.string (bytesOf xs)) w := by
  have hl := h.len
  have h2 := h.2.1
  have h4 := h.2.2.2.1
  obtain ⟨b, off, ha, hc⟩ := h.opened
  cases a with
  | none =>
    have := h4 rfl
    obtain rfl : n = 0 := by omega
    have hx : xs = [] := List.eq_nil_of_length_eq_zero hl
    subst hx
    exact run_convert_bytes_nil w src e hs he 0 cap dst hd
  | some x =>
    rcases Nat.eq_zero_or_pos n with h0 | h0
    · subst h0
      have hx : xs = [] := List.eq_nil_of_length_eq_zero hl
      subst hx
      have hld := run_loadCells_list (P := P) w x [] (fun j v hj => by simp at hj)
      rw [run_convert_bytes_string w src dst e _ 0 cap hs he hd, run_bytesToString w x 0 cap [] hld]
      rfl
    · have := ha h0
      simp only [Option.some.injEq] at this
      subst this
      refine run_convert_bytes_arg w src e hs he b off n cap _ (by simpa using hl) (fun i hi => ?_) dst hd
      rw [hc i hi]
      simp [List.getElem?_eq_getElem (show i < xs.length by omega)]
theorem bytesOf_toList (xs : List Nat) : (bytesOf xs).toList = xs.map (fun d => UInt8.ofNat d) := by
  rw [ByteArray.toList_eq]
  simp [bytesOf, strOfNums, List.map_map]
theorem map_u8_inj {xs ys : List Nat} (hx : ∀ d ∈ xs, d < 256) (hy : ∀ d ∈ ys, d < 256) (h : xs.map (fun d => UInt8.ofNat d) = ys.map (fun d => UInt8.ofNat d)) : xs = ys := by
  induction xs generalizing ys with
  | nil => cases ys with
    | nil => rfl
    | cons y r => simp at h
  | cons x r ih => cases ys with
    | nil => simp at h
    | cons y t =>
      simp only [List.map_cons, List.cons.injEq] at h
      have h1 := hx x (by simp)
      have h2 := hy y (by simp)
      have h3 : x = y := by
        have := congrArg UInt8.toNat h.1
        simp at this
        omega
      rw [h3, ih (fun d hd => hx d (by simp [hd])) (fun d hd => hy d (by simp [hd])) h.2]
theorem bytesOf_eq {xs ys : List Nat} (hx : ∀ d ∈ xs, d < 256) (hy : ∀ d ∈ ys, d < 256) : ((bytesOf xs).toList == (bytesOf ys).toList) = decide (xs = ys) := by
  rw [bytesOf_toList, bytesOf_toList, Bool.eq_iff_iff, beq_iff_eq, decide_eq_true_eq]
  exact ⟨map_u8_inj hx hy, fun h => by rw [h]⟩

theorem same_walk (a a' : Option Addr) (n cap m cap' : Nat) (xs ys : List Nat) (hx : ∀ d ∈ xs, d < 256) (hy : ∀ d ∈ ys, d < 256) (w : World) (h : Sl .u8 w a n cap xs) (h' : Sl .u8 w a' m cap' ys) :
    Calls Tryd.prog 31 #[.slice a n cap, .slice a' m cap'] w fun e w' => e = .returned (.bool (decide (xs = ys))) ∧ w = w' := by
  have c1 := conv_bytes h Tryd.underlying23 Tryd.underlying5 Tryd.underlying9
  have c2 := conv_bytes h' Tryd.underlying23 Tryd.underlying5 Tryd.underlying9
  have e := hid (bytesOf_eq hx hy)
  clear h h'
  go_enter Tryd.func31, Tryd.ntmps31
  go_wp2
  go_ret
  exact ⟨by rw [← e.out]; rfl, rfl⟩
theorem same_self (a a' : Option Addr) (n cap m cap' : Nat) (xs : List Nat) (hx : ∀ d ∈ xs, d < 256) (w : World) (h : Sl .u8 w a n cap xs) (h' : Sl .u8 w a' m cap' xs) :
    Calls Tryd.prog 31 #[.slice a n cap, .slice a' m cap'] w fun e w' => e = .returned (.bool true) ∧ w = w' := by
  refine (same_walk a a' n cap m cap' xs xs hx hx w h h').mono ?_
  rintro e w' ⟨rfl, rfl⟩
  exact ⟨by rw [decide_eq_true rfl], rfl⟩
end Go.Proofs.YtllckpcggmfmkaaDoor
