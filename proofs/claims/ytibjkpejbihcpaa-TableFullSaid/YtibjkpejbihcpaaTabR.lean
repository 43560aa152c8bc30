/- slices.SortFunc at quotes. -/
import Derived.Test.YtibjkpejbihcpaaTabQ
namespace Go.Proofs.Ytibjkpejbihcpaa
open Go.RowKit Go.Shelf Go.Sort

theorem cb_cases (a b : UInt8) (r1 r2 : List UInt8) : (a.toNat < b.toNat ∧ Lib.compareBytes (a :: r1) (b :: r2) = -1) ∨ (b.toNat < a.toNat ∧ Lib.compareBytes (a :: r1) (b :: r2) = 1) ∨ (a.toNat = b.toNat ∧ Lib.compareBytes (a :: r1) (b :: r2) = Lib.compareBytes r1 r2) := by
  unfold Lib.compareBytes
  by_cases h1 : a < b
  · exact .inl ⟨UInt8.lt_iff_toNat_lt.1 h1, by rw [if_pos h1]⟩
  · by_cases h2 : b < a
    · exact .inr (.inl ⟨UInt8.lt_iff_toNat_lt.1 h2, by rw [if_neg h1, if_pos h2]⟩)
    · rw [UInt8.lt_iff_toNat_lt] at h1 h2
      refine .inr (.inr ⟨by omega, ?_⟩)
      rw [if_neg (by rw [UInt8.lt_iff_toNat_lt]; exact h1), if_neg (by rw [UInt8.lt_iff_toNat_lt]; exact h2)]
      cases r1 <;> cases r2 <;> rfl
theorem cb_self (l : List UInt8) : Lib.compareBytes l l = 0 := by
  induction l with
  | nil => rfl
  | cons a r ih =>
    rcases cb_cases a a r r with ⟨h, _⟩ | ⟨h, _⟩ | ⟨_, h⟩
    · omega
    · omega
    · rw [h, ih]
theorem cb_trans : ∀ a b c : List UInt8, Lib.compareBytes a b < 0 → Lib.compareBytes b c < 0 → Lib.compareBytes a c < 0 := by
  intro a
  induction a with
  | nil =>
    intro b c h1 h2
    cases c with
    | nil => cases b <;> simp [Lib.compareBytes] at h1 h2
    | cons z r3 => simp [Lib.compareBytes]
  | cons x r1 ih =>
    intro b c h1 h2
    cases b with
    | nil => simp [Lib.compareBytes] at h1
    | cons y r2 =>
      cases c with
      | nil => simp [Lib.compareBytes] at h2
      | cons z r3 =>
        rcases cb_cases x y r1 r2 with ⟨p, e⟩ | ⟨p, e⟩ | ⟨p, e⟩ <;> rcases cb_cases y z r2 r3 with ⟨q, f⟩ | ⟨q, f⟩ | ⟨q, f⟩ <;> rcases cb_cases x z r1 r3 with ⟨r, g⟩ | ⟨r, g⟩ | ⟨r, g⟩ <;> rw [e] at h1 <;> rw [f] at h2 <;> rw [g] <;> first | omega | exact ih _ _ h1 h2
theorem cb_ntrans : ∀ a b c : List UInt8, ¬ Lib.compareBytes a b < 0 → ¬ Lib.compareBytes b c < 0 → ¬ Lib.compareBytes a c < 0 := by
  intro a
  induction a with
  | nil =>
    intro b c h1 h2
    cases c with
    | nil => simp [Lib.compareBytes]
    | cons z r3 => cases b <;> simp [Lib.compareBytes] at h1 h2
  | cons x r1 ih =>
    intro b c h1 h2
    cases c with
    | nil => simp [Lib.compareBytes]
    | cons z r3 =>
      cases b with
      | nil => simp [Lib.compareBytes] at h2
      | cons y r2 =>
        rcases cb_cases x y r1 r2 with ⟨p, e⟩ | ⟨p, e⟩ | ⟨p, e⟩ <;> rcases cb_cases y z r2 r3 with ⟨q, f⟩ | ⟨q, f⟩ | ⟨q, f⟩ <;> rcases cb_cases x z r1 r3 with ⟨r, g⟩ | ⟨r, g⟩ | ⟨r, g⟩ <;> rw [e] at h1 <;> rw [f] at h2 <;> rw [g] <;> first | omega | exact ih _ _ h1 h2
def OQuo := { q : Quo // q.ok }
instance : Inhabited OQuo := ⟨⟨qz, qz_ok⟩⟩
def OQuo.cells (x : OQuo) : List Value := x.1.cells
def cfQ (x y : OQuo) : Int := cmpBy x.1.no y.1.no
theorem swoQ : SWO (ltOf cfQ) where
  irrefl x := by simp [ltOf, cfQ, cmpBy, cb_self]
  trans x y z h1 h2 := by
    exact decide_eq_true (cb_trans _ _ _ (of_decide_eq_true h1) (of_decide_eq_true h2))
  ntrans x y z h1 h2 := by
    exact decide_eq_false (cb_ntrans _ _ _ (of_decide_eq_false h1) (of_decide_eq_false h2))
theorem isAggQ (w : World) : (isAgg 43).run Try.prog w = .ok true w := by kernel_rfl
theorem sizeOfQ (w : World) : (sizeOf 43).run Try.prog w = .ok 71 w := by kernel_rfl
theorem cmpLaysQ (blk off size : Nat) (w : World) : CmpLays Try.prog 38 #[] OQuo.cells 71 cfQ blk off size w :=
  fun _ _ _ _ x y => acmp_walk x.1 y.1 x.2 y.2 _
/-- the sort, at any length -/
theorem sortQ_walk (blk off cap : Nat) (d : Array OQuo) (w : World) (hH : HoldsK OQuo.cells 71 w blk off d) (hblk : blk < w.heap.size) (hsz : d.size < 4611686018427387904) :
    Calls Try.prog 37 #[.slice (some ⟨blk, off, none⟩) d.size cap, .func (.func 38) #[] #[]] w
      fun e w' => e = .returned (.tuple #[]) ∧ ∃ d' n os, PermIn 0 d.size d d' ∧ SortedIn (ltOf cfQ) 0 d.size d' ∧ w' = sortWorldK OQuo.cells 71 w blk off n d' os := by
  have eg : ∀ args w, (callFunc 38 args).run Try.prog w = .ok (.enter 38 args) w := enters_of Try.func38 (by kernel_rfl) rfl
  exact AnyQ.slices_SortFunc Try.sortQ 71 isAggQ sizeOfQ OQuo.cells (fun x => Quo.len x.2) (fun x v hv => Quo.one x.1 v hv) cfQ swoQ 38 #[] blk off cap d w eg (cmpLaysQ blk off d.size w) hH hblk hsz
end Go.Proofs.Ytibjkpejbihcpaa
