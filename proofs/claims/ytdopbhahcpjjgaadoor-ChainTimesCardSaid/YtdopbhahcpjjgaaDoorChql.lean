/- A transaction of one input and one output, plain: its name, what it is told. -/
import Derived.Test.YtdopbhahcpjjgaaDoorMin
namespace Go.Proofs.YtdopbhahcpjjgaaDoor
open Go.RowKit

def oneX (gd tok : List Nat) : InD := ⟨gd, 0, 0, tok, zh, zh⟩
def oneT (ia : Option Addr) (ic : Nat) (oa : Option Addr) (oc : Nat) (gd tok : List Nat) (o : OutD) : TxD := ⟨ia, ic, [oneX gd tok], oa, oc, [o]⟩
theorem oneT_code {ia : Option Addr} {ic : Nat} {oa : Option Addr} {oc : Nat} {gd tok : List Nat} {o : OutD} (h : o.code = 0) (hc : o.coins < 18446744073709551616) : (oneT ia ic oa oc gd tok o).code = 0 := by
  unfold TxD.code oneT
  dsimp only
  have e1 : insC [] [oneX gd tok] = 0 := by simp [insC, oneX, InD.bad]
  have e2 : outsC [o] = 0 := by simp [outsC, h]
  rw [e1, e2]
  simp [hc]
def oneId (gd : List Nat) (o : OutD) : List Nat := sha (tagH nmTx ++ bodyB (oneT none 0 none 0 gd zh o))
theorem oneT_id {ia : Option Addr} {ic : Nat} {oa : Option Addr} {oc : Nat} {gd tok : List Nat} {o : OutD} (h : o.code = 0) (hc : o.coins < 18446744073709551616) (a : Option Addr) (k : Nat) : idB (oneT ia ic oa oc gd tok (o.at' a k)) = oneId gd o := by
  have h' : (o.at' a k).code = 0 := h
  unfold idB
  rw [if_pos (oneT_code h' hc)]
  rfl
theorem oneT_id' {ia : Option Addr} {ic : Nat} {oa : Option Addr} {oc : Nat} {gd tok : List Nat} {o : OutD} (h : o.code = 0) (hc : o.coins < 18446744073709551616) : idB (oneT ia ic oa oc gd tok o) = oneId gd o := oneT_id (ia := ia) (ic := ic) (oa := oa) (oc := oc) (gd := gd) (tok := tok) h hc o.pa o.pc
theorem one_try {HM : HM'} {SM : SM'} {M : EM} {ht : Int} {ia : Option Addr} {ic : Nat} {oa : Option Addr} {oc : Nat} {gd tok : List Nat} {o : OutD} {hd : HeldD} {q : PathD} (h : o.code = 0) (hc : o.coins < 18446744073709551616) (hm : HM (gd, 0) = some hd) (hq : hd.out.paths = [q]) (hb : hd.out.coins < 18446744073709551616) (hl : o.coins ≤ hd.out.coins) (ha : aldB M q.own (oneId gd o) tok = true) :
    tryC HM SM M ht (oneT ia ic oa oc gd tok o) = if ht + 1 < q.till ∨ ht + 1 - hd.height < q.wait then 33 else 0 := by
  unfold tryC
  rw [oneT_code h hc, oneT_id' h hc]
  have e1 : tryIn HM SM M ht (oneId gd o) (oneX gd tok) = if ht + 1 < q.till ∨ ht + 1 - hd.height < q.wait then 33 else 0 := by
    unfold tryIn
    have : HM ((oneX gd tok).tx, (oneX gd tok).out) = some hd := hm
    rw [this]
    dsimp only
    rw [hq]
    have e : [q][(oneX gd tok).path.toNat]? = some q := rfl
    rw [e]
    dsimp only
    rw [show (oneX gd tok).token = tok from rfl, ha]
    simp
  have e2 : tryL HM SM M ht (oneId gd o) (oneT ia ic oa oc gd tok o).ins = if ht + 1 < q.till ∨ ht + 1 - hd.height < q.wait then 33 else 0 := by
    show tryL HM SM M ht (oneId gd o) [oneX gd tok] = _
    unfold tryL
    rw [e1]
    generalize (if ht + 1 < q.till ∨ ht + 1 - hd.height < q.wait then (33 : Nat) else 0) = K
    by_cases h0 : K = 0
    · rw [if_pos h0, h0]; rfl
    · rw [if_neg h0]
  have e3 : ((oneT ia ic oa oc gd tok o).ins.map (coinIn HM)).sum = hd.out.coins := by
    show ([oneX gd tok].map (coinIn HM)).sum = _
    have : coinIn HM (oneX gd tok) = hd.out.coins := by
      unfold coinIn
      have : HM ((oneX gd tok).tx, (oneX gd tok).out) = some hd := hm
      rw [this]; rfl
    simp [this]
  have e4 : ((oneT ia ic oa oc gd tok o).outs.map OutD.coins).sum = o.coins := by
    show ([o].map OutD.coins).sum = _
    simp
  rw [e2, e3, e4, if_neg (by decide)]
  generalize (if ht + 1 < q.till ∨ ht + 1 - hd.height < q.wait then (33 : Nat) else 0) = K
  by_cases h0 : K = 0
  · rw [if_neg (fun h => h h0), if_neg (by omega), if_neg (by omega), h0]
  · rw [if_pos h0]
theorem one_easy {HM : HM'} {M : EM} {id gd tok : List Nat} {hd : HeldD} {q : PathD} (hm : HM (gd, 0) = some hd) (hq : hd.out.paths = [q]) (h1 : q.also = zh) (h2 : q.lock = zh) : easyIn HM M id (oneX gd tok) := by
  intro h p e1 e2
  have e3 : HM ((oneX gd tok).tx, (oneX gd tok).out) = some hd := hm
  rw [e3] at e1
  obtain rfl := Option.some.inj e1
  rw [hq] at e2
  have e4 : [q][(oneX gd tok).path.toNat]? = some q := rfl
  rw [e4] at e2
  obtain rfl := Option.some.inj e2
  exact .inr ⟨h1, h2⟩
theorem insC_33 : ∀ {r pre : List InD}, insC pre r ≠ 33
  | [], _ => by rw [insC]; decide
  | x :: r, pre => by
    rw [insC]
    split
    · decide
    · split
      · decide
      · exact insC_33
theorem outD_33 {o : OutD} : o.code ≠ 33 := by
  unfold OutD.code
  split
  · decide
  · split <;> decide
theorem outsC_33 : ∀ {os : List OutD}, outsC os ≠ 33
  | [] => by rw [outsC]; decide
  | o :: r => by
    rw [outsC]
    split
    · exact outsC_33
    · exact outD_33
/-- nothing was ever allowed: it is never sure, nor does it wait -/
theorem none_try {HM : HM'} {SM : SM'} {ht : Int} {t : TxD} {x : InD} {hd : HeldD} (hx : t.ins = [x]) (hm : HM (x.tx, x.out) = some hd) : tryC HM SM (fun _ => none) ht t ≠ 0 ∧ tryC HM SM (fun _ => none) ht t ≠ 33 := by
  unfold tryC
  by_cases h0 : t.code = 0
  · rw [if_neg (fun h => h h0), hx]
    have e1 : tryIn HM SM (fun _ => none) ht (idB t) x = 1 ∨ tryIn HM SM (fun _ => none) ht (idB t) x = 31 := by
      unfold tryIn
      rw [hm]
      dsimp only
      split
      · exact .inl rfl
      · rename_i p _
        exact .inr (by rw [if_pos (by unfold aldB; simp)])
    have e2 : tryL HM SM (fun _ => none) ht (idB t) [x] = tryIn HM SM (fun _ => none) ht (idB t) x := by
      unfold tryL
      rw [if_neg (by rcases e1 with e | e <;> rw [e] <;> decide)]
    rw [e2]
    rcases e1 with e | e
    · rw [e, if_pos (by decide)]; exact ⟨by decide, by decide⟩
    · rw [e, if_pos (by decide)]; exact ⟨by decide, by decide⟩
  · rw [if_pos h0]
    refine ⟨h0, fun h => ?_⟩
    unfold TxD.code at h
    split at h
    · omega
    · split at h
      · omega
      · split at h
        · rename_i h3
          exact insC_33 h
        · split at h
          · exact outsC_33 h
          · split at h <;> omega
theorem none_easy {HM : HM'} {id : List Nat} {x : InD} : easyIn HM (fun _ => none) id x := fun h p _ _ => .inl (by unfold aldB; simp)
theorem allow_aldB (sec id : List Nat) : aldB (allM (fun _ => none) sec id) (ownD sec) id (tokD sec id) = true := by
  unfold aldB allM
  simp [updE]
end Go.Proofs.YtdopbhahcpjjgaaDoor

/- A new chain over a new office; outputs and inputs as the laws build them. -/
namespace Go.Proofs.YtdopbhahcpjjgaaDoor
open Go.RowKit

theorem led_new {w w1 w2 : World} {ob mb hm dm wm sm cb : Nat} (ht : Tabs w) (off : OffAt w1 ob mb (fun _ => none) 0) (lo : w.heap.size ≤ ob) (lm : w.heap.size ≤ mb) (b1 : Below w.heap.size w w1)
    (hc : ChAt w2 cb ob 0 hm dm wm sm (.slice none 0 0) 0) (m1 : MapIs EP w2 hm (fun _ => none) 0) (m2 : MapIs EH w2 dm (fun _ => none) 0) (m3 : MapIs EH w2 wm (fun _ => none) 0) (m4 : MapIs EP w2 sm (fun _ => none) 0) (ord : w1.heap.size ≤ hm ∧ hm < dm ∧ dm < wm ∧ wm < sm ∧ sm < cb) (b2 : Below w1.heap.size w1 w2) :
    Led w2 w.heap.size w2.heap.size ob mb hm dm wm sm cb 0 0 (.slice none 0 0) (fun _ => none) (fun _ => none) (fun _ => none) 0 := by
  have l1 : ob < w1.heap.size := (Array.getElem?_eq_some_iff.1 off.st).1
  have l2 := off.map.lt
  have hob := off.ne
  have l3 := hc.lt
  have t0 := World.block_lt_of_cell? w _ (ht.1 0 (by decide))
  have t1 := World.block_lt_of_cell? w _ (ht.2 0 (by decide))
  exact ⟨hc, ⟨0, Nat.le_refl _, m1⟩, ⟨_, 0, Nat.le_refl _, m2⟩, ⟨_, 0, Nat.le_refl _, m3⟩, ⟨0, Nat.le_refl _, m4⟩, ⟨0, Nat.le_refl _, off.below b2⟩, fun _ _ h => (by cases h), fun _ _ h => (by cases h), by omega, Nat.le_refl _, by decide, by decide, by decide, (ht.below b1).below b2, t0, t1⟩
def h1x : List Nat := [1, 0, 0, 0, 0, 0, 0, 0, 0, 0, 0, 0, 0, 0, 0, 0, 0, 0, 0, 0, 0, 0, 0, 0, 0, 0, 0, 0, 0, 0, 0, 0]
def h2x : List Nat := [2, 0, 0, 0, 0, 0, 0, 0, 0, 0, 0, 0, 0, 0, 0, 0, 0, 0, 0, 0, 0, 0, 0, 0, 0, 0, 0, 0, 0, 0, 0, 0]
def h9x : List Nat := [9, 0, 0, 0, 0, 0, 0, 0, 0, 0, 0, 0, 0, 0, 0, 0, 0, 0, 0, 0, 0, 0, 0, 0, 0, 0, 0, 0, 0, 0, 0, 0]
theorem h1_ok : H32b h1x := ⟨rfl, by decide⟩
theorem h2_ok : H32b h2x := ⟨rfl, by decide⟩
theorem h9_ok : H32b h9x := ⟨rfl, by decide⟩
theorem bh1 : Tryd.prog.built 27 [(0, .int .u8 1)] = some (nums .u8 h1x).toArray := by kernel_rfl
theorem bh2 : Tryd.prog.built 27 [(0, .int .u8 2)] = some (nums .u8 h2x).toArray := by kernel_rfl
theorem bh9 : Tryd.prog.built 27 [(0, .int .u8 9)] = some (nums .u8 h9x).toArray := by kernel_rfl
theorem mineO_code (c g : Nat) (x : List Nat) : (mineO c g x).code = 0 := by
  unfold OutD.code mineO
  simp [ownP, PathD.bad]
set_option maxRecDepth 100000 in
theorem bIn' (n : Int) (a0 a1 a2 a3 a4 a5 a6 a7 a8 a9 a10 a11 a12 a13 a14 a15 a16 a17 a18 a19 a20 a21 a22 a23 a24 a25 a26 a27 a28 a29 a30 a31 : Nat) : Tryd.prog.built 33 [(0, .agg (ptI [a0, a1, a2, a3, a4, a5, a6, a7, a8, a9, a10, a11, a12, a13, a14, a15, a16, a17, a18, a19, a20, a21, a22, a23, a24, a25, a26, a27, a28, a29, a30, a31] n).toArray)] = some (InD.cells ⟨[a0, a1, a2, a3, a4, a5, a6, a7, a8, a9, a10, a11, a12, a13, a14, a15, a16, a17, a18, a19, a20, a21, a22, a23, a24, a25, a26, a27, a28, a29, a30, a31], n, 0, zh, zh, zh⟩).toArray := by kernel_rfl
theorem bIn (x : List Nat) (h : x.length = 32) : Tryd.prog.built 33 [(0, .agg (ptI x 0).toArray)] = some (oneX x zh).cells.toArray := by
  match x, h with
  | [a0, a1, a2, a3, a4, a5, a6, a7, a8, a9, a10, a11, a12, a13, a14, a15, a16, a17, a18, a19, a20, a21, a22, a23, a24, a25, a26, a27, a28, a29, a30, a31], _ => exact bIn' 0 ..
theorem bTx (a b : Value) (ha : ∃ x y z, a = .slice x y z) (hb : ∃ x y z, b = .slice x y z) : Tryd.prog.built 25 [(0, a), (1, b)] = some #[a, b] := by
  obtain ⟨x, y, z, rfl⟩ := ha
  obtain ⟨x', y', z', rfl⟩ := hb
  kernel_rfl
theorem oneX_ok {gd tok : List Nat} (h1 : H32b gd) (h2 : H32b tok) : (oneX gd tok).ok := ⟨h1, i64z, i64z, h2, zh32, zh32⟩
theorem putL_mid : ∀ (vs A B C : List Value), B.length = vs.length → putL (A ++ (B ++ C)) A.length vs = A ++ (vs ++ C)
  | [], A, B, C, h => by
    have hb : B = [] := List.eq_nil_of_length_eq_zero (by simpa using h)
    subst hb
    simp [putL]
  | v :: r, A, [], C, h => by simp at h
  | v :: r, A, b :: B, C, h => by
    rw [putL]
    have e : (A ++ (b :: B ++ C)).set A.length v = (A ++ [v]) ++ (B ++ C) := by simp
    rw [e, show A.length + 1 = (A ++ [v]).length by simp, putL_mid r (A ++ [v]) B C (by simpa using h)]
    simp
/-- the token written into an input's row -/
theorem oneX_tok {gd tok : List Nat} (hg : gd.length = 32) (ht : tok.length = 32) : putL (oneX gd zh).cells 34 (nums .u8 tok) = (oneX gd tok).cells := by
  unfold InD.cells oneX
  dsimp only
  have e : nums .u8 gd ++ (Value.int .i64 0 :: Value.int .i64 0 :: (nums .u8 zh ++ (nums .u8 zh ++ nums .u8 zh))) = (nums .u8 gd ++ [Value.int .i64 0, Value.int .i64 0]) ++ (nums .u8 zh ++ (nums .u8 zh ++ nums .u8 zh)) := by simp
  have hA : (nums .u8 gd ++ [Value.int .i64 0, Value.int .i64 0]).length = 34 := by simp [hg]
  rw [e, ← hA, putL_mid _ _ _ _ (by simp [ht, zh])]
  simp
/-- a transaction as the laws build it: its rows -/
structure TxRow (w : World) (ib o2 tb : Nat) (gd tok : List Nat) (o : OutD) : Prop where
  r1 : w.heap[ib]? = some (.cells (oneX gd tok).cells.toArray 33 (0, 0))
  r2 : w.heap[o2]? = some (.cells o.cells.toArray 41 (0, 0))
  r3 : w.heap[tb]? = some (.cells ([.slice (some ⟨ib, 0, none⟩) 1 1, .slice (some ⟨o2, 0, none⟩) 1 1] : List Value).toArray 25 (0, 0))
  og : o.good w
theorem rd_of_row {w : World} {g : Nat} {L : List Value} {t : TypeId} {size : Nat} (h : w.heap[g]? = some (.cells L.toArray t (0, 0))) (hl : L.length = size) : Rd w size (some ⟨g, 0, none⟩) 1 1 L :=
  ⟨by omega, Nat.le_refl _, by decide, (fun e => nomatch e), g, 0, fun _ => rfl, fun j u hu => row_range h j u hu⟩
theorem named {w : World} {g : Nat} {o : Obj} (_h : w.heap[g]? = some o) : ∃ n, n = g := ⟨g, rfl⟩
theorem heap_putL {g : Nat} {t : TypeId} : ∀ (vs : List Value) (o : Nat) (w : World) (L : List Value), w.heap[g]? = some (.cells L.toArray t (0, 0)) → (w.setCells g o vs).heap[g]? = some (.cells (putL L o vs).toArray t (0, 0))
  | [], _, _, _, h => h
  | v :: r, o, _, _, h => heap_putL r (o + 1) _ _ (heap_set v h)
/-- an office that has given once more -/
theorem Led.office {w w' : World} {A B ob mb hm dm wm sm cb c n2 : Nat} {ht gf : Int} {P : Value} {HM : HM'} {SM : SM'} {M M2 : EM} (h : Led w A B ob mb hm dm wm sm cb ht gf P HM SM M c) (k : Keep (fun i => i = ob ∨ i = mb) w w') (ho : OffAt w' ob mb M2 n2) (hn : n2 ≤ c + 1) (hc : c < 1000000) : Led w' A B ob mb hm dm wm sm cb ht gf P HM SM M2 (c + 1) := by
  have o := h.ord
  have q : ∀ i, i ≠ ob → i ≠ mb → ¬ (i = ob ∨ i = mb) := fun i h1 h2 h => h.elim h1 h2
  exact h.turn k (fun i hi => by omega) (h.ch.keep k (q _ (by omega) (by omega))) (h.heldK k (q _ (by omega) (by omega)) (by omega)) (h.doneK k (q _ (by omega) (by omega)) (by omega)) (h.whnK k (q _ (by omega) (by omega)) (by omega)) (h.spentK k (q _ (by omega) (by omega)) (by omega)) ⟨n2, hn, ho⟩ (fun _ _ hx => .inl hx) h.sk ⟨Int.le_refl _, h.hb.2⟩ h.gb (by omega)
theorem PoolAt.weak {w : World} {B B' : Nat} {P : Value} {t : TxD} (h : PoolAt w B P t) (hb : B' ≤ B) : PoolAt w B' P t := by
  obtain ⟨g, c, e, hr, hg⟩ := h.ex
  exact ⟨⟨g, c, e, hr, by omega⟩, h.good, fun ad ha => Nat.le_trans hb (h.ia ad ha), fun ad ha => Nat.le_trans hb (h.oa ad ha), fun o ho ad ha => Nat.le_trans hb (h.off o ho ad ha)⟩
theorem mineO_lt {w : World} {c g : Nat} {x : List Nat} (h : (mineO c g x).good w) (hx : x.length = 32) : g < w.heap.size := by
  obtain ⟨_, _, _, _, b, off, ha, hc⟩ := h.paths
  have e := ha (show 0 < 1 from Nat.one_pos)
  have e' : some (⟨g, 0, none⟩ : Addr) = some ⟨b, off, none⟩ := e
  simp only [Option.some.injEq, Addr.mk.injEq, and_true] at e'
  obtain ⟨rfl, rfl⟩ := e'
  have := hc 0 (.int .u8 ((x.getD 0 0 : Nat) : Int)) (by
    show ([ownP x].flatMap PathD.cells)[0]? = _
    rw [List.flatMap_cons]
    rw [List.getElem?_append_left (by rw [show (PathD.cells (ownP x)).length = 98 from by simp [PathD.cells, ownP, hx, zh]]; decide)]
    unfold PathD.cells
    rw [List.getElem?_append_left (by rw [nums_length]; show 0 < x.length; omega)]
    exact nums_get .u8 (show 0 < x.length by omega))
  exact World.block_lt_of_cell? w _ this
def rowT (ib o2 : Nat) (gd tok : List Nat) (o : OutD) : TxD := oneT (some ⟨ib, 0, none⟩) 1 (some ⟨o2, 0, none⟩) 1 gd tok o
theorem TxRow.good {w : World} {ib o2 tb : Nat} {gd tok : List Nat} {o : OutD} (h : TxRow w ib o2 tb gd tok o) (hg : H32b gd) (ht : H32b tok) : (rowT ib o2 gd tok o).good w := by
  refine ⟨?_, fun i hi => ?_, ?_, fun q hq => ?_⟩
  · have := rd_of_row (size := 130) h.r1 (InD.len (oneX_ok hg ht))
    show Rd w 130 (some ⟨ib, 0, none⟩) 1 1 ([oneX gd tok].flatMap InD.cells)
    simpa using this
  · have hi' : i ∈ [oneX gd tok] := hi
    rw [List.mem_singleton] at hi'
    rw [hi']; exact oneX_ok hg ht
  · have := rd_of_row (size := 34) h.r2 (OutD.len h.og)
    show Rd w 34 (some ⟨o2, 0, none⟩) 1 1 ([o].flatMap OutD.cells)
    simpa using this
  · have hq' : q ∈ [o] := hq
    rw [List.mem_singleton] at hq'
    rw [hq']; exact h.og
theorem TxRow.below {w w' : World} {ib o2 tb : Nat} {gd tok : List Nat} {o : OutD} (h : TxRow w ib o2 tb gd tok o) (b : Below w.heap.size w w') : TxRow w' ib o2 tb gd tok o := ⟨heap_keep h.r1 b, heap_keep h.r2 b, heap_keep h.r3 b, h.og.below b⟩
theorem TxRow.keep {S : Nat → Prop} {w w' : World} {ib o2 tb : Nat} {gd tok : List Nat} {o : OutD} (h : TxRow w ib o2 tb gd tok o) (k : Keep S w w') (h1 : ¬ S ib) (h2 : ¬ S o2) (h3 : ¬ S tb) (h4 : ∀ ad, o.pa = some ad → ¬ S ad.block) : TxRow w' ib o2 tb gd tok o := ⟨k.heap h.r1 h1, k.heap h.r2 h2, k.heap h.r3 h3, h.og.keepN' k h4⟩
end Go.Proofs.YtdopbhahcpjjgaaDoor
