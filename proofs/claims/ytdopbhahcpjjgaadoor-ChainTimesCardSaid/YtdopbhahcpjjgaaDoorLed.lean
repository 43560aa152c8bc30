/- The chain's state as a whole: its struct, its maps, its office; what a call may change. -/
import Derived.Test.YtdopbhahcpjjgaaDoorChkj
import Derived.WideKeyEntry
namespace Go.Proofs.YtdopbhahcpjjgaaDoor
open Go.RowKit Go.Maps

abbrev HM' := List Nat × Int → Option HeldD
abbrev SM' := List Nat × Int → Option (List Nat)
theorem Rd.keep {S : Nat → Prop} {w w' : World} {size : Nat} {a : Option Addr} {n cap : Nat} {xs : List Value} (h : Rd w size a n cap xs) (k : Keep S w w') (hs : ∀ ad, a = some ad → ¬ S ad.block) : Rd w' size a n cap xs := by
  obtain ⟨h1, h2, h3, h4, b, off, ha, hc⟩ := h
  refine ⟨h1, h2, h3, h4, b, off, ha, fun j u hu => ?_⟩
  refine k.cell (hc j u hu) (hs ⟨b, off, none⟩ (ha ?_))
  rcases Nat.eq_zero_or_pos n with h0 | h0
  · subst h0
    have : xs = [] := List.eq_nil_of_length_eq_zero (by simpa using h1)
    subst this
    simp at hu
  · exact h0
/-- its paths lie from block B on -/
def OutD.off (B : Nat) (o : OutD) : Prop := ∀ ad, o.pa = some ad → B ≤ ad.block
theorem OutD.good.keep {S : Nat → Prop} {B : Nat} {w w' : World} {o : OutD} (h : o.good w) (k : Keep S w w') (ho : o.off B) (hs : ∀ i, S i → i < B) : o.good w' :=
  ⟨h.coins, h.anchor, h.paths.keep k (fun ad ha hh => by have := hs _ hh; have := ho ad ha; omega), h.ok⟩
theorem off_own {w : World} {B : Nat} {e : TypeId} {size n c : Nat} {a : Option Addr} {xs : List Value} (h : w.ownsRow B e size (.slice a n c) n xs) : ∀ ad, a = some ad → B ≤ ad.block := by
  rintro ad rfl
  exact (h.lt ad.block rfl).1
def upd {α β : Type} [DecidableEq α] (f : α → β) (x : α) (v : β) : α → β := fun y => if y = x then v else f y
theorem held_upd (HM : HM') (x : List Nat × Int) (h : HeldD) : (fun y => if y = x then some (.agg h.cells.toArray) else heldM HM y) = heldM (upd HM x (some h)) := by
  funext y
  unfold heldM upd
  by_cases e : y = x <;> simp [e]
theorem held_del (HM : HM') (x : List Nat × Int) : (fun y => if y = x then none else heldM HM y) = heldM (upd HM x none) := by
  funext y
  unfold heldM upd
  by_cases e : y = x <;> simp [e]
theorem hash_upd (SM : SM') (x : List Nat × Int) (d : List Nat) : (fun y => if y = x then some (.agg (nums .u8 d).toArray) else hashM SM y) = hashM (upd SM x (some d)) := by
  funext y
  unfold hashM upd
  by_cases e : y = x <;> simp [e]
theorem Tabs.keep {S : Nat → Prop} {w w' : World} (h : Tabs w) (k : Keep S w w') (h1 : ¬ S 0) (h2 : ¬ S 1) : Tabs w' :=
  ⟨fun i hi => k.cell (h.1 i hi) h1, fun i hi => k.cell (h.2 i hi) h2⟩
/-- blocks from A to B are the chain's and the office's -/
def InAB (A B : Nat) (i : Nat) : Prop := A ≤ i ∧ i < B
structure Led (w : World) (A B ob mb hm dm wm sm cb : Nat) (ht gf : Int) (P : Value) (HM : HM') (SM : SM') (M : EM) (c : Nat) : Prop where
  ch : ChAt w cb ob ht hm dm wm sm P gf
  held : ∃ n, n ≤ c ∧ MapIs EP w hm (heldM HM) n
  done : ∃ D n, n ≤ c ∧ MapIs EH w dm D n
  whn : ∃ D n, n ≤ c ∧ MapIs EH w wm D n
  spent : ∃ n, n ≤ c ∧ MapIs EP w sm (hashM SM) n
  off : ∃ n, n ≤ c ∧ OffAt w ob mb M n
  hk : ∀ p x, HM p = some x → x.out.good w ∧ x.out.off B ∧ x.out.paths.length ≤ 4 ∧ 0 ≤ x.height ∧ x.height ≤ ht + 1
  sk : ∀ p x, SM p = some x → H32b x
  ord : A ≤ ob ∧ A ≤ mb ∧ ob ≠ mb ∧ ob < hm ∧ mb < hm ∧ hm < dm ∧ dm < wm ∧ wm < sm ∧ sm < cb ∧ cb < B
  le : B ≤ w.heap.size
  hb : 0 ≤ ht ∧ ht ≤ 1073741824
  gb : 0 ≤ gf ∧ gf ≤ 1073741824
  cc : c ≤ 1000000
  tabs : Tabs w
  tlt : 0 < A ∧ 1 < A
section
variable {w w' : World} {A B ob mb hm dm wm sm cb c : Nat} {ht gf : Int} {P : Value} {HM : HM'} {SM : SM'} {M : EM}
theorem Led.below (h : Led w A B ob mb hm dm wm sm cb ht gf P HM SM M c) (b : Below w.heap.size w w') : Led w' A B ob mb hm dm wm sm cb ht gf P HM SM M c :=
  ⟨h.ch.below b, h.held.imp fun _ x => ⟨x.1, x.2.below b⟩, h.done.imp fun _ x => x.imp fun _ x => ⟨x.1, x.2.below b⟩, h.whn.imp fun _ x => x.imp fun _ x => ⟨x.1, x.2.below b⟩, h.spent.imp fun _ x => ⟨x.1, x.2.below b⟩,
    h.off.imp fun _ x => ⟨x.1, x.2.below b⟩, fun p x hx => ⟨(h.hk p x hx).1.below b, (h.hk p x hx).2⟩, h.sk, h.ord, Nat.le_trans h.le b.size, h.hb, h.gb, h.cc, h.tabs.below b, h.tlt⟩
theorem OffAt.keep {S : Nat → Prop} {n : Nat} (h : OffAt w ob mb M n) (k : Keep S w w') (h1 : ¬ S ob) (h2 : ¬ S mb) : OffAt w' ob mb M n := ⟨k.heap h.st h1, h.map.keep k h2, h.ok, h.small, h.ne⟩
/-- whatever is changed from block B on is nothing to it -/
theorem Led.keep {S : Nat → Prop} (h : Led w A B ob mb hm dm wm sm cb ht gf P HM SM M c) (k : Keep S w w') (hS : ∀ i, S i → B ≤ i) (hg : ∀ p x, HM p = some x → ∀ ad, x.out.pa = some ad → ¬ S ad.block) : Led w' A B ob mb hm dm wm sm cb ht gf P HM SM M c := by
  have o := h.ord
  have q : ∀ i, i < B → ¬ S i := fun i hi hs => by have := hS i hs; omega
  exact ⟨h.ch.keep k (q _ (by omega)), h.held.imp fun _ x => ⟨x.1, x.2.keep k (q _ (by omega))⟩, h.done.imp fun _ x => x.imp fun _ x => ⟨x.1, x.2.keep k (q _ (by omega))⟩, h.whn.imp fun _ x => x.imp fun _ x => ⟨x.1, x.2.keep k (q _ (by omega))⟩, h.spent.imp fun _ x => ⟨x.1, x.2.keep k (q _ (by omega))⟩,
    h.off.imp fun _ x => ⟨x.1, x.2.keep k (q _ (by omega)) (q _ (by omega))⟩, fun p x hx => ⟨⟨(h.hk p x hx).1.coins, (h.hk p x hx).1.anchor, (h.hk p x hx).1.paths.keep k (hg p x hx), (h.hk p x hx).1.ok⟩, (h.hk p x hx).2⟩, h.sk, h.ord, Nat.le_trans h.le k.size, h.hb, h.gb, h.cc, h.tabs.keep k (q _ (by have := h.tlt; omega)) (q _ (by have := h.tlt; omega)), h.tlt⟩
theorem MapIs.same {k : TypeId} {α : Type} {E : KeyE k α} {b n : Nat} {Mp : α → Option Value} (h : MapIs E w b Mp n) (e : w'.heap[b]? = w.heap[b]?) : MapIs E w' b Mp n := by
  obtain ⟨D, ⟨es, clock, hb1, rest⟩, k2⟩ := h
  exact ⟨D, ⟨es, clock, e.trans hb1, rest⟩, k2⟩
end
section
variable {w w' : World} {A B ob mb hm dm wm sm cb c : Nat} {ht gf : Int} {P : Value} {HM : HM'} {SM : SM'} {M : EM}
/-- the state behind a step that changes blocks below B alone -/
theorem Led.turn {S : Nat → Prop} {ht' gf' : Int} {P' : Value} {HM2 : HM'} {SM2 : SM'} {M2 : EM} {c2 : Nat} (h : Led w A B ob mb hm dm wm sm cb ht gf P HM SM M c) (k : Keep S w w') (hS : ∀ i, S i → A ≤ i ∧ i < B)
    (ch : ChAt w' cb ob ht' hm dm wm sm P' gf') (held : ∃ n, n ≤ c2 ∧ MapIs EP w' hm (heldM HM2) n) (done : ∃ D n, n ≤ c2 ∧ MapIs EH w' dm D n) (whn : ∃ D n, n ≤ c2 ∧ MapIs EH w' wm D n) (spent : ∃ n, n ≤ c2 ∧ MapIs EP w' sm (hashM SM2) n) (off : ∃ n, n ≤ c2 ∧ OffAt w' ob mb M2 n)
    (hk : ∀ p x, HM2 p = some x → HM p = some x ∨ (x.out.good w' ∧ x.out.off B ∧ x.out.paths.length ≤ 4 ∧ 0 ≤ x.height ∧ x.height ≤ ht' + 1)) (sk : ∀ p x, SM2 p = some x → H32b x) (hh : ht ≤ ht' ∧ ht' ≤ 1073741824) (gb : 0 ≤ gf' ∧ gf' ≤ 1073741824) (cc : c2 ≤ 1000000) :
    Led w' A B ob mb hm dm wm sm cb ht' gf' P' HM2 SM2 M2 c2 :=
  ⟨ch, held, done, whn, spent, off, fun p x hx => by
    rcases hk p x hx with h1 | h1
    · have h2 := h.hk p x h1
      exact ⟨h2.1.keep k h2.2.1 (fun i hi => (hS i hi).2), h2.2.1, h2.2.2.1, h2.2.2.2.1, by have := h2.2.2.2.2; have := hh.1; omega⟩
    · exact h1, sk, h.ord, Nat.le_trans h.le k.size, ⟨Int.le_trans h.hb.1 hh.1, hh.2⟩, gb, cc, h.tabs.keep k (fun hs => by have := hS _ hs; have := h.tlt; omega) (fun hs => by have := hS _ hs; have := h.tlt; omega), h.tlt⟩
theorem Led.heldK {S : Nat → Prop} {c2 : Nat} (h : Led w A B ob mb hm dm wm sm cb ht gf P HM SM M c) (k : Keep S w w') (hn : ¬ S hm) (hc : c ≤ c2) : ∃ n, n ≤ c2 ∧ MapIs EP w' hm (heldM HM) n := h.held.imp fun _ x => ⟨Nat.le_trans x.1 hc, x.2.keep k hn⟩
theorem Led.doneK {S : Nat → Prop} {c2 : Nat} (h : Led w A B ob mb hm dm wm sm cb ht gf P HM SM M c) (k : Keep S w w') (hn : ¬ S dm) (hc : c ≤ c2) : ∃ D n, n ≤ c2 ∧ MapIs EH w' dm D n := h.done.imp fun _ x => x.imp fun _ x => ⟨Nat.le_trans x.1 hc, x.2.keep k hn⟩
theorem Led.whnK {S : Nat → Prop} {c2 : Nat} (h : Led w A B ob mb hm dm wm sm cb ht gf P HM SM M c) (k : Keep S w w') (hn : ¬ S wm) (hc : c ≤ c2) : ∃ D n, n ≤ c2 ∧ MapIs EH w' wm D n := h.whn.imp fun _ x => x.imp fun _ x => ⟨Nat.le_trans x.1 hc, x.2.keep k hn⟩
theorem Led.spentK {S : Nat → Prop} {c2 : Nat} (h : Led w A B ob mb hm dm wm sm cb ht gf P HM SM M c) (k : Keep S w w') (hn : ¬ S sm) (hc : c ≤ c2) : ∃ n, n ≤ c2 ∧ MapIs EP w' sm (hashM SM) n := h.spent.imp fun _ x => ⟨Nat.le_trans x.1 hc, x.2.keep k hn⟩
theorem Led.offK {S : Nat → Prop} {c2 : Nat} (h : Led w A B ob mb hm dm wm sm cb ht gf P HM SM M c) (k : Keep S w w') (h1 : ¬ S ob) (h2 : ¬ S mb) (hc : c ≤ c2) : ∃ n, n ≤ c2 ∧ OffAt w' ob mb M n := h.off.imp fun _ x => ⟨Nat.le_trans x.1 hc, x.2.keep k h1 h2⟩
/-- the struct's own cells written anew -/
theorem Led.struct {S : Nat → Prop} {ht' gf' : Int} {P' : Value} (h : Led w A B ob mb hm dm wm sm cb ht gf P HM SM M c) (k : Keep S w w') (hS : ∀ i, S i → i = cb) (ch : ChAt w' cb ob ht' hm dm wm sm P' gf') (hh : ht ≤ ht' ∧ ht' ≤ 1073741824) (gb : 0 ≤ gf' ∧ gf' ≤ 1073741824) :
    Led w' A B ob mb hm dm wm sm cb ht' gf' P' HM SM M c := by
  have o := h.ord
  have q : ∀ i, i ≠ cb → ¬ S i := fun i hi hs => hi (hS i hs)
  exact h.turn k (fun i hi => by have := hS i hi; omega) ch (h.heldK k (q _ (by omega)) (Nat.le_refl _)) (h.doneK k (q _ (by omega)) (Nat.le_refl _)) (h.whnK k (q _ (by omega)) (Nat.le_refl _)) (h.spentK k (q _ (by omega)) (Nat.le_refl _)) (h.offK k (q _ (by omega)) (q _ (by omega)) (Nat.le_refl _)) (fun _ _ hx => .inl hx) h.sk hh gb h.cc
theorem ChAt.set1 {pool : Value} (h : ChAt w cb ob ht hm dm wm sm pool gf) (v : Int) : ChAt (w.setCell ⟨cb, 1, none⟩ (.int .i64 v)) cb ob v hm dm wm sm pool gf := ⟨heap_set _ h.cell⟩
theorem ChAt.set6 {pool : Value} (h : ChAt w cb ob ht hm dm wm sm pool gf) (v : Value) : ChAt (w.setCell ⟨cb, 6, none⟩ v) cb ob ht hm dm wm sm v gf := ⟨heap_set _ h.cell⟩
theorem ChAt.set7 {pool : Value} (h : ChAt w cb ob ht hm dm wm sm pool gf) (v : Int) : ChAt (w.setCell ⟨cb, 7, none⟩ (.int .i64 v)) cb ob ht hm dm wm sm pool v := ⟨heap_set _ h.cell⟩
end
/-- a zero value of a type, written 'T{}' -/
theorem wpList_build0 {P : Program} {ops : Array Oper} {rest : List Oper} {o : Oper} {a : Act} {w : World} {Q : Exit → Act → World → Prop} (hg : o.guard = none) (t : TypeId) (ho : o.op = .build t #[])
    {cells : Array Value} (hb : P.built t [] = some cells) (h : wpList P ops Q rest (a.put o.dst (.agg cells)) w) : wpList P ops Q (o :: rest) a w :=
  wpList_build hg t _ ho (by simp [hb]) (by simpa [hb] using h)
end Go.Proofs.YtdopbhahcpjjgaaDoor
