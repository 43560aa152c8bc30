/- bytes.Compare. -/
import Derived.Test.YtnophelfpoldfaaGreatDoorGKey
import Derived.Lib.Bytealg
namespace Go.Proofs.YtnophelfpoldfaaGreatDoor
open Go.RowKit

def u8s (xs : List Nat) : List UInt8 := xs.map (fun d => d.toUInt8)
theorem run_load8 {P : Program} {w : World} {a : Addr} {v : Value} (h : w.cell? a = some v) : (load a).run P w = .ok v w := by
  rw [run_load, h]
theorem loadBytes_run {P : Program} {w : World} (b : Nat) (xs : List Nat) : ∀ (off : Nat) (acc : ByteArray), (∀ j, j < xs.length → w.cell? ⟨b, off + j, none⟩ = some (.int .u8 ((xs.getD j 0 : Nat) : Int))) →
    (Extern.Bytes.loadBytes ⟨b, off, none⟩ xs.length acc).run P w = .ok ⟨acc.data ++ (u8s xs).toArray⟩ w := by
  induction xs with
  | nil => intro off acc _; simp [Extern.Bytes.loadBytes, u8s]
  | cons x r ih =>
    intro off acc hc
    have h0 := hc 0 (by simp)
    simp only [Nat.add_zero, List.getD_cons_zero] at h0
    have hr := ih (off + 1) (acc.push x.toUInt8) (fun j hj => by
      have := hc (j + 1) (by simpa using hj)
      rw [List.getD_cons_succ] at this
      rw [← this]
      congr 2
      omega)
    have ha : (⟨b, off, none⟩ : Addr).add 1 = ⟨b, off + 1, none⟩ := by unfold Addr.add; split <;> simp_all
    rw [List.length_cons, Extern.Bytes.loadBytes, Sem.run_bind, run_load8 h0]
    simp only [Result.andThen, ha]
    rw [show ((x : Int)).toNat.toUInt8 = x.toUInt8 by simp, hr]
    simp [u8s, ByteArray.push]
def cmpBy (xs ys : List Nat) : Int := Lib.compareBytes (u8s xs) (u8s ys)
theorem bytesOf_run {P : Program} {w : World} {a : Option Addr} {n cap : Nat} {xs : List Nat} (h : Sl .u8 w a n cap xs) : (Extern.Bytes.bytesOf (.slice a n cap)).run P w = .ok ⟨(u8s xs).toArray⟩ w := by
  have hl := h.len
  obtain ⟨b, off, ha, hc⟩ := h.opened
  cases a with
  | none =>
    have h4 := h.2.2.2.1 rfl
    have h2 := h.2.1
    obtain rfl : n = 0 := by omega
    obtain rfl : xs = [] := List.eq_nil_of_length_eq_zero hl
    rfl
  | some p =>
    by_cases h0 : 0 < n
    · have := ha h0
      simp only [Option.some.injEq] at this
      subst this
      subst hl
      have := loadBytes_run (P := P) b xs off .empty (fun j hj => hc j hj)
      simpa [Extern.Bytes.bytesOf] using this
    · obtain rfl : n = 0 := by omega
      obtain rfl : xs = [] := List.eq_nil_of_length_eq_zero hl
      rfl
theorem run_compare {P : Program} {w : World} {a a' : Option Addr} {n m cap cap' : Nat} {xs ys : List Nat} (h : Sl .u8 w a n cap xs) (h' : Sl .u8 w a' m cap' ys) :
    (Extern.BytealgCompare.compare #[.slice a n cap, .slice a' m cap']).run P w = .ok (.int .i64 (cmpBy xs ys)) w := by
  have e := Lib.run_compareString (P := P) ⟨(u8s xs).toArray⟩ ⟨(u8s ys).toArray⟩ w
  change Sem.run P (do pure (goInt (Extern.BytealgCompare.cmp (← Extern.Bytes.bytesOf (.string _)) (← Extern.Bytes.bytesOf (.string _))))) w = _ at e
  simp only [Extern.Bytes.bytesOf, Sem.run_bind, Sem.run_pure, Result.andThen] at e
  change Sem.run P (do pure (goInt (Extern.BytealgCompare.cmp (← Extern.Bytes.bytesOf (.slice a n cap)) (← Extern.Bytes.bytesOf (.slice a' m cap'))))) w = _
  rw [Sem.run_bind, bytesOf_run h]
  simp only [Result.andThen]
  rw [Sem.run_bind, bytesOf_run h']
  simp only [Result.andThen, Sem.run_pure]
  exact e
set_option maxRecDepth 100000 in
theorem bcmp_walk (a a' : Option Addr) (n m cap cap' : Nat) (xs ys : List Nat) (w : World) (h : Sl .u8 w a n cap xs) (h' : Sl .u8 w a' m cap' ys) :
    Calls Tryz.prog 22 #[.slice a n cap, .slice a' m cap'] w fun e w' => e = .returned (.int .i64 (cmpBy xs ys)) ∧ w' = w := by
  have R := run_compare (P := Tryz.prog) h h'
  go_enter Tryz.func22, Tryz.ntmps22
  go_wp2
  rw [run_callFunc_extern Tryz.func39 (by kernel_rfl) (by kernel_rfl) (by kernel_rfl) (e := Extern.BytealgCompare.compare) (by kernel_rfl), R]
  simp only [Result.andThen]
  rw [Oper.upon_value]
  go_wp2
  go_ret
  exact ⟨rfl, rfl⟩
end Go.Proofs.YtnophelfpoldfaaGreatDoor
