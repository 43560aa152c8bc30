/- Plain facts on records as bytes. No program in sight. -/
import Derived.Test.YtgaidleepjkldaaDoorTl
import Derived.Test.YtgaidleepjkldaaDoorBa
import Derived.Maps.AppendAt
import Derived.Deep.AppendLies
import Derived.Deep.RegionHeld3
namespace Go.Proofs.YtgaidleepjkldaaDoor

abbrev Pr := Nat × List Nat
def encR (r : Pr) : List Nat := size r.1 ++ size r.2.length ++ r.2
def encAll (rs : List Pr) : List Nat := rs.flatMap encR
/-- what is wrong with records, the first of all -/
def encErr : Option Nat → List Pr → Nat
  | _, [] => 0
  | p, r :: s => if p.any (fun q => decide (r.1 ≤ q)) = true then 22 else if 65536 < r.2.length then 3 else encErr (some r.1) s
def encE (rs : List Pr) : Nat := if 256 < rs.length then 4 else encErr none rs
/-- the type of the record ahead -/
def prevT (rs : List Pr) (k : Nat) : Option Nat := match k with | 0 => none | j + 1 => rs[j]?.map (·.1)
theorem encErr_step {rs : List Pr} {k : Nat} {r : Pr} (h : rs[k]? = some r) : encErr (prevT rs k) (rs.drop k) = if (prevT rs k).any (fun q => decide (r.1 ≤ q)) = true then 22 else if 65536 < r.2.length then 3 else encErr (prevT rs (k + 1)) (rs.drop (k + 1)) := by
  have hk : k < rs.length := (List.getElem?_eq_some_iff.1 h).1
  have e : rs.drop k = r :: rs.drop (k + 1) := by
    rw [List.drop_eq_getElem_cons hk]
    congr 1
    rw [List.getElem?_eq_getElem hk] at h
    exact Option.some.inj h
  have e2 : prevT rs (k + 1) = some r.1 := by simp [prevT, h]
  rw [e, encErr, e2]
/-- the records of bytes; n: how many there were; p: the last one's type -/
def decGo : Nat → Option Nat → Nat → List Nat → List Pr × Nat
  | 0, _, _, _ => ([], 0)
  | _, _, _, [] => ([], 0)
  | f + 1, p, n, bs =>
    let a := readS bs
    if a.2.2 ≠ 0 then ([], a.2.2)
    else if p.any (fun q => decide (a.1 ≤ q)) = true then ([], 22)
    else
      let b1 := bs.drop a.2.1
      let c := readS b1
      if c.2.2 ≠ 0 then ([], c.2.2)
      else
        let b2 := b1.drop c.2.1
        if 65536 < c.1 then ([], 3)
        else if b2.length < c.1 then ([], 20)
        else if 256 ≤ n then ([], 4)
        else
          let t := decGo f (some a.1) (n + 1) (b2.drop c.1)
          if t.2 ≠ 0 then ([], t.2) else ((a.1, b2.take c.1) :: t.1, 0)
def decS (bs : List Nat) : List Pr × Nat := decGo (bs.length + 1) none 0 bs

theorem readS_len {bs : List Nat} (h : (readS bs).2.2 = 0) : 1 ≤ (readS bs).2.1 ∧ (readS bs).2.1 ≤ bs.length := by
  cases bs with
  | nil => simp [readS] at h
  | cons x t =>
    unfold readS at *
    by_cases h1 : folN x = 0
    · simp [h1]
    · by_cases h2 : t.length < folN x
      · simp [h1, h2] at h
      · by_cases h3 : beVal (t.take (folN x)) < folL x
        · simp [h1, h2, h3] at h
        · simp [h1, h2, h3]; omega
/-- more steps than bytes are no more than enough -/
theorem decGo_fuel : ∀ (f g : Nat) (p : Option Nat) (n : Nat) (bs : List Nat), bs.length < f → bs.length < g → decGo f p n bs = decGo g p n bs := by
  intro f
  induction f with
  | zero => intro g p n bs h; omega
  | succ f ih =>
    intro g p n bs hf hg
    cases g with
    | zero => omega
    | succ g =>
      cases bs with
      | nil => rfl
      | cons x t =>
        unfold decGo
        by_cases h1 : (readS (x :: t)).2.2 ≠ 0
        · simp [h1]
        · have hl := readS_len (by simpa using h1)
          have key : ∀ q m k j, decGo f q m (((((x :: t).drop (readS (x :: t)).2.1)).drop k).drop j) = decGo g q m (((((x :: t).drop (readS (x :: t)).2.1)).drop k).drop j) := by
            intro q m k j
            apply ih <;> (simp at *; omega)
          simp only [key]
/-- one step -/
theorem decGo_cons (p : Option Nat) (n : Nat) {bs : List Nat} (h0 : bs ≠ []) : decGo (bs.length + 1) p n bs =
    (if (readS bs).2.2 ≠ 0 then ([], (readS bs).2.2)
    else if p.any (fun q => decide ((readS bs).1 ≤ q)) = true then ([], 22)
    else if (readS (bs.drop (readS bs).2.1)).2.2 ≠ 0 then ([], (readS (bs.drop (readS bs).2.1)).2.2)
    else if 65536 < (readS (bs.drop (readS bs).2.1)).1 then ([], 3)
    else if ((bs.drop (readS bs).2.1).drop (readS (bs.drop (readS bs).2.1)).2.1).length < (readS (bs.drop (readS bs).2.1)).1 then ([], 20)
    else if 256 ≤ n then ([], 4)
    else (fun (b3 : List Nat) (v : List Nat) => (if (decGo (b3.length + 1) (some (readS bs).1) (n + 1) b3).2 ≠ 0 then (([] : List Pr), (decGo (b3.length + 1) (some (readS bs).1) (n + 1) b3).2) else (((readS bs).1, v) :: (decGo (b3.length + 1) (some (readS bs).1) (n + 1) b3).1, 0)))
      (((bs.drop (readS bs).2.1).drop (readS (bs.drop (readS bs).2.1)).2.1).drop (readS (bs.drop (readS bs).2.1)).1)
      (((bs.drop (readS bs).2.1).drop (readS (bs.drop (readS bs).2.1)).2.1).take (readS (bs.drop (readS bs).2.1)).1)) := by
  cases bs with
  | nil => exact absurd rfl h0
  | cons x t =>
    by_cases h1 : (readS (x :: t)).2.2 ≠ 0
    · rw [decGo]
      · simp [h1]
      · simp
    · have hl := readS_len (by simpa using h1)
      have hb3 : ((((x :: t).drop (readS (x :: t)).2.1).drop (readS ((x :: t).drop (readS (x :: t)).2.1)).2.1).drop (readS ((x :: t).drop (readS (x :: t)).2.1)).1).length < (x :: t).length := by
        simp at *; omega
      rw [decGo]
      · simp only [decGo_fuel _ (((((x :: t).drop (readS (x :: t)).2.1).drop (readS ((x :: t).drop (readS (x :: t)).2.1)).2.1).drop (readS ((x :: t).drop (readS (x :: t)).2.1)).1).length + 1) _ _ _ hb3 (Nat.lt_succ_self _)]
      · simp
end Go.Proofs.YtgaidleepjkldaaDoor

/- Appends in a region that draws its order, next to calls that make memory: the state of a growing slice of bytes. -/
namespace Go.Proofs.YtgaidleepjkldaaDoor
open Go.RowKit

/-- a slice of bytes that grows, next to a variable in block G -/
def GrowSt (w0 : World) (G : Nat) (t : Nat) (s : Value) (w : World) (v : Value) (xs : List Nat) : Prop :=
  w.ownsRow w0.heap.size 5 1 v xs.length (nums .u8 xs) ∧ Below w0.heap.size w0 w ∧ BxR w G t s ∧ v.ownBlock ≠ some G ∧ w0.heap.size ≤ G
/-- bytes that can be read, apart from the slice v -/
def ApartSl (w : World) (v : Value) (a : Option Addr) (n c : Nat) (ys : List Nat) : Prop := Sl .u8 w a n c ys ∧ (0 < n → ∀ b off, a = some ⟨b, off, none⟩ → v.ownBlock ≠ some b)
theorem GrowSt.lt {w0 : World} {G t : Nat} {s : Value} {w : World} {v : Value} {xs : List Nat} (h : GrowSt w0 G t s w v xs) : G < w.heap.size := World.block_lt_of_cell? w _ h.2.2.1.1
theorem GrowSt.ownLt {w0 : World} {G t : Nat} {s : Value} {w : World} {v : Value} {xs : List Nat} (h : GrowSt w0 G t s w v xs) : ∀ g, v.ownBlock = some g → w0.heap.size ≤ g ∧ g < w.heap.size := by
  intro g hg
  exact h.1.lt g hg
theorem GrowSt.below {w0 : World} {G t : Nat} {s : Value} {w w' : World} {v : Value} {xs : List Nat} (h : GrowSt w0 G t s w v xs) (hb : Below w.heap.size w w') : GrowSt w0 G t s w' v xs :=
  ⟨own_below h.1 hb, h.2.1.trans (hb.mono h.2.1.size), h.2.2.1.below hb, h.2.2.2⟩
theorem GrowSt.dN {w0 : World} {G t : Nat} {s : Value} {w : World} {v : Value} {xs : List Nat} (h : GrowSt w0 G t s w v xs) (q : Nat) : GrowSt w0 G t s (w.drewN q) v xs := h.below (below_drewN (Below.refl _ _) q)
theorem GrowSt.drew {w0 : World} {G t : Nat} {s : Value} {w : World} {v : Value} {xs : List Nat} (h : GrowSt w0 G t s w v xs) : GrowSt w0 G t s w.drew v xs := h.below ((Below.refl _ _).drew)
theorem ApartSl.below {w w' : World} {v : Value} {a : Option Addr} {n c : Nat} {ys : List Nat} (h : ApartSl w v a n c ys) (hb : Below w.heap.size w w') : ApartSl w' v a n c ys := ⟨h.1.below hb, h.2⟩
/-- a call that makes bytes -/
theorem GrowSt.call {w0 : World} {G t : Nat} {s : Value} {w w' : World} {v : Value} {xs ys : List Nat} {e : Ending} (h : GrowSt w0 G t s w v xs) (hr : BytesRes w ys e w') :
    ∃ a c, e = .returned (.slice a ys.length c) ∧ GrowSt w0 G t s w' v xs ∧ ApartSl w' v a ys.length c ys ∧ Below w.heap.size w w' := by
  obtain ⟨r, rfl, hown, hb⟩ := hr
  obtain ⟨a, c, rfl, hs⟩ := SlV.of_owns hown
  refine ⟨a, c, rfl, h.below hb, ⟨hs, fun h0 b off ha hv => ?_⟩, hb⟩
  have h1 := (h.ownLt b hv).2
  subst ha
  have h2 := (hown.lt b (by
    rcases hown.2 with ⟨e, _⟩ | ⟨g, cap, cur, e, _⟩
    · simp at e
    · rfl)).1
  omega
theorem GrowSt.arg {w0 : World} {G t : Nat} {s : Value} {w : World} {v : Value} {xs : List Nat} {a : Option Addr} {n c : Nat} {ys : List Nat} (h : GrowSt w0 G t s w v xs) (hs : Sl .u8 w0 a n c ys) : ApartSl w v a n c ys := by
  refine ⟨hs.below h.2.1, fun h0 b off ha hv => ?_⟩
  obtain ⟨b', off', ha', hc⟩ := hs.opened
  have := ha' h0
  rw [ha] at this
  simp only [Option.some.injEq, Addr.mk.injEq, and_true] at this
  obtain ⟨rfl, rfl⟩ := this
  have h1 := World.block_lt_of_cell? w0 _ (hc 0 h0)
  have h2 := (h.ownLt b hv).1
  simp at h1
  omega
/-- an append -/
theorem GrowSt.grew {w0 : World} {G t : Nat} {s : Value} {w w' : World} {v v' : Value} {xs ys : List Nat} {m : Nat} (h : GrowSt w0 G t s w v xs) (hm : ys.length = m) (hown : w'.ownsRow w0.heap.size 5 1 v' (xs.length + m) (nums .u8 xs ++ nums .u8 ys)) (hg : w.grownBy w' v.ownBlock) (hv : v'.ownBlock = v.ownBlock ∨ v'.ownBlock = some w.heap.size) :
    GrowSt w0 G t s w' v' (xs ++ ys) ∧ (∀ a n c zs, ApartSl w v a n c zs → ApartSl w' v' a n c zs) := by
  have hlt := h.lt
  have cell : ∀ p : Addr, p.block < w.heap.size → v.ownBlock ≠ some p.block → w'.cell? p = w.cell? p := fun p hp hne => hg.cell_far p hp (Ne.symm hne)
  refine ⟨⟨?_, ?_, ⟨?_, ?_⟩, ?_, h.2.2.2.2⟩, fun a n c zs ⟨h1, h2⟩ => ⟨?_, fun h0 b off ha => ?_⟩⟩
  · rw [nums_append] at hown
    rw [List.length_append, hm]
    exact hown
  · exact h.2.1.grown hg h.2.1.size (fun k hk => (h.ownLt k hk).1)
  · rw [cell ⟨G, 0, none⟩ hlt h.2.2.2.1]; exact h.2.2.1.1
  · rw [cell ⟨G, 1, none⟩ hlt h.2.2.2.1]; exact h.2.2.1.2
  · rcases hv with hv | hv
    · rw [hv]; exact h.2.2.2.1
    · rw [hv]; intro e; simp at e; omega
  · have hl := h1.len
    obtain ⟨q1, q2, q3, q4, b, off, ha, hc⟩ := h1
    refine ⟨q1, q2, q3, q4, b, off, ha, fun j u hu => ?_⟩
    have hj : 0 < n := by
      have := (List.getElem?_eq_some_iff.1 hu).1
      rw [nums_length] at this; omega
    have hcu := hc j u hu
    rw [cell _ (World.block_lt_of_cell? w _ hcu) (h2 hj b off (ha hj))]
    exact hcu
  · rcases hv with hv | hv
    · rw [hv]; exact h2 h0 b off ha
    · rw [hv]
      intro e
      simp at e
      obtain ⟨b', off', ha', hc⟩ := h1.opened
      have := ha' h0
      rw [ha] at this
      simp only [Option.some.injEq, Addr.mk.injEq, and_true] at this
      obtain ⟨rfl, rfl⟩ := this
      have := World.block_lt_of_cell? w _ (hc 0 h0)
      simp at this
      omega
end Go.Proofs.YtgaidleepjkldaaDoor

/- The walk of tlv.Encode. -/
namespace Go.Proofs.YtgaidleepjkldaaDoor
open Go.RowKit

def EncRes (w : World) (rs : List Pr) (e : Ending) (w' : World) : Prop := ∃ v, e = .returned (.tuple #[v, .int .i64 ((encE rs : Nat) : Int)]) ∧ SlV .u8 w' v (if encE rs = 0 then encAll rs else []) ∧ Below w.heap.size w w'
theorem EncRes.bad {w w' : World} {rs : List Pr} {z : Int} (h : ((encE rs : Nat) : Int) = z) (h0 : z ≠ 0) (hb : Below w.heap.size w w') : EncRes w rs (.returned (.tuple #[.slice none 0 0, .int .i64 z])) w' := by
  refine ⟨_, by rw [h], ?_, hb⟩
  rw [if_neg (by omega)]
  exact (Sl.nilS .u8 _ (Nat.zero_le _) (fun _ => rfl)).toV
theorem encAll_snoc (rs : List Pr) (r : Pr) : encAll (rs ++ [r]) = encAll rs ++ size r.1 ++ size r.2.length ++ r.2 := by simp [encAll, encR]
theorem map_pr {rs : List LR} {k : Nat} {r : LR} (h : rs[k]? = some r) : (rs.map LR.pr)[k]? = some (r.t, r.v) := by rw [List.getElem?_map, h]; rfl

set_option maxRecDepth 100000 in
set_option maxHeartbeats 2000000 in
theorem enc_walk (a : Option Addr) (n cap : Nat) (rs : List LR) (w : World) (h : Recs w a n cap rs) :
    Calls Tryd.prog 17 #[.slice a n cap] w (EncRes w (rs.map LR.pr)) := by
  have HL := hid h.2.1
  by_cases hn : n ≤ 256
  · have hE := hid (show encE (rs.map LR.pr) = encErr none (rs.map LR.pr) by unfold encE; rw [if_neg (by rw [List.length_map, HL.out]; omega)])
    have t0 : decide ((n : Int) > 256) = false := by rw [decide_eq_false_iff_not]; omega
    go_enter Tryd.func17, Tryd.ntmps17
    go_wp2
    clear t0
    go_loopw [4, 12] (fun x4 i0 wr => ∃ (k : Nat) (v : Value), k ≤ n ∧ v = x4 ∧ i0 = .int .i64 k ∧ wr.ownsRow w.heap.size 5 1 v (encAll ((rs.map LR.pr).take k)).length (nums .u8 (encAll ((rs.map LR.pr).take k))) ∧ Below w.heap.size w wr ∧ Hid (encErr none (rs.map LR.pr) = encErr (prevT (rs.map LR.pr) k) ((rs.map LR.pr).drop k)) ∧ (encAll ((rs.map LR.pr).take k)).length ≤ k * 65554) (fun _ i0 _ => n - (intOf i0).toNat)
    case atStart => exact ⟨0, _, by omega, rfl, rfl, ⟨rfl, .inl ⟨rfl, rfl⟩⟩, Below.refl _ _, hid rfl, by simp [encAll]⟩
    case round =>
      obtain ⟨k, v, hk, rfl, rfl, hown, hb, he, hle⟩ := hrel
      by_cases hlt : k < n
      · obtain ⟨r, hr⟩ := get_some HL.out hlt
        obtain ⟨b, off, rfl, c0, c1, gd⟩ := (h.below hb).cells hr
        have gd0 := h.2.2 r (List.mem_of_getElem? hr)
        have hp := map_pr hr
        have hs := encErr_step hp
        rw [← he.out] at hs
        have HS := hid hs
        have HP := hid hp
        have HI := hid h
        have HR := hid hr
        have hlen := gd.2.2.2
        have st0 : GrowSt w wr.heap.size r.t (.slice r.a r.v.length r.c) (wr.alloc (.cells #[.int .u64 (r.t : Int), .slice r.a r.v.length r.c] 58)) v (encAll ((rs.map LR.pr).take k)) := by
          have bb := (Below.refl wr.heap.size wr).alloc (Nat.le_refl _) (.cells #[.int .u64 (r.t : Int), .slice r.a r.v.length r.c] 58)
          refine ⟨own_below hown bb, hb.trans (bb.mono hb.size), BxR.new _ _ _ _, fun e => ?_, hb.size⟩
          have := (hown.lt _ e).2
          omega
        have A46 := hid gd0.2.1
        clear hs he hp gd gd0 hown
        obtain ⟨xs, hxs⟩ : ∃ xs, encAll ((rs.map LR.pr).take k) = xs := ⟨_, rfl⟩
        have HXS := hid hxs
        rw [hxs] at hle st0
        clear hxs
        have BB := hid st0.2.1
        -- what the tests of this round see
        by_cases h1 : ((prevT (rs.map LR.pr) k).any (fun q => decide (r.t ≤ q))) = true
        · have F := hid (fun w' (hb : Below w.heap.size w w') => EncRes.bad (w := w) (w' := w') (rs := rs.map LR.pr) (z := 22) (by rw [show encE (rs.map LR.pr) = 22 by rw [hE.out, HS.out, if_pos h1]]; rfl) (by decide) hb)
          cases k with
          | zero => simp [prevT] at h1
          | succ j =>
            obtain ⟨q, hq⟩ := get_some HL.out (show j < n by omega)
            obtain ⟨b', off', hb', d0, _, gq⟩ := (h.below hb).cells hq
            simp only [Option.some.injEq, Addr.mk.injEq, and_true] at hb'
            obtain ⟨rfl, rfl⟩ := hb'
            have ej : (((j + 1 : Nat) : Int) - 1) = (j : Int) := by omega
            have tq : decide (r.t ≤ q.t) = true := by
              simp [prevT, map_pr hq] at h1
              rw [decide_eq_true_eq]; exact h1
            have tk : decide (0 < j + 1) = true := by simp
            have bb := (Below.refl wr.heap.size wr).alloc (Nat.le_refl _) (.cells #[.int .u64 (r.t : Int), .slice r.a r.v.length r.c] 58)
            have d1 := (bb.cell (World.block_lt_of_cell? wr _ d0)).trans d0
            obtain ⟨x0, x1⟩ := st0.2.2.1
            clear h1 hq gq d0 bb st0 HS HP HI A46 h hle
            go_wp2_with fail
            go_quiet (fail)
            go_wp2
            go_ret2
            exact F.out _ (below_drewN BB.out _)
        · rw [if_neg h1] at HS
          by_cases h2 : 65536 < r.v.length
          · have F := hid (fun w' (hb : Below w.heap.size w w') => EncRes.bad (w := w) (w' := w') (rs := rs.map LR.pr) (z := 3) (by rw [show encE (rs.map LR.pr) = 3 by rw [hE.out, HS.out, if_pos h2]]; rfl) (by decide) hb)
            have tl : decide ((r.v.length : Int) > 65536) = true := by rw [decide_eq_true_eq]; omega
            have bb := (Below.refl wr.heap.size wr).alloc (Nat.le_refl _) (.cells #[.int .u64 (r.t : Int), .slice r.a r.v.length r.c] 58)
            obtain ⟨x0, x1⟩ := st0.2.2.1
            cases k with
            | zero =>
              simp only [Nat.zero_mul, Nat.add_zero] at c0 c1
              clear h1 h2 bb st0 HS HP HI A46 h hle
              go_wp2_with fail
              go_quiet (fail)
              go_wp2
              go_ret2
              exact F.out _ (below_drewN BB.out _)
            | succ j =>
              obtain ⟨q, hq⟩ := get_some HL.out (show j < n by omega)
              obtain ⟨b', off', hb', d0, _, gq⟩ := (h.below hb).cells hq
              simp only [Option.some.injEq, Addr.mk.injEq, and_true] at hb'
              obtain ⟨rfl, rfl⟩ := hb'
              have ej : (((j + 1 : Nat) : Int) - 1) = (j : Int) := by omega
              have tq : decide (r.t ≤ q.t) = false := by
                simp [prevT, map_pr hq] at h1
                rw [decide_eq_false_iff_not]; omega
              have tk : decide (0 < j + 1) = true := by simp
              have d1 := (bb.cell (World.block_lt_of_cell? wr _ d0)).trans d0
              clear h1 h2 hq gq d0 bb st0 HS HP HI A46 h hle
              go_wp2_with fail
              go_quiet (fail)
              go_wp2
              go_ret2
              exact F.out _ (below_drewN BB.out _)
          · have tl : decide ((r.v.length : Int) > 65536) = false := by rw [decide_eq_false_iff_not]; omega
            rw [if_neg h2] at HS
            have hrt := (HI.out.2.2 r (List.mem_of_getElem? (show rs[k]? = some r from HR.out))).1
            have C37 := fun wx => hid (size_walk r.t hrt wx)
            have C43 := fun wx => hid (size_walk r.v.length (by omega) wx)
            have HN := hid (show encAll ((rs.map LR.pr).take (k + 1)) = xs ++ size r.t ++ size r.v.length ++ r.v by rw [take_succ_some HP.out, encAll_snoc, HXS.out])
            have hwr : IntKind.u64.wrap (r.v.length : Int) = (r.v.length : Int) := by
              simp [IntKind.wrap, IntKind.signed, IntKind.bits]; omega
            have l1 := (size_len_bd r.t).2
            have l2 := (size_len_bd r.v.length).2
            generalize size r.t = y1 at *
            generalize size r.v.length = y2 at *
            have bb := (Below.refl wr.heap.size wr).alloc (Nat.le_refl _) (.cells #[.int .u64 (r.t : Int), .slice r.a r.v.length r.c] 58)
            obtain ⟨x0, x1⟩ := st0.2.2.1
            cases k with
            | zero =>
              simp only [Nat.zero_mul, Nat.add_zero] at c0 c1
              have ST := hid st0
              clear h1 bb HI h st0 HP hb
              go_wp2_with fail
              go_quiet (fail)
              go_wp2_with fail
              have st := ST.out.dN nq
              clear ST
              go_region_held3 (fun w' => w'.cell? ⟨wr.heap.size, 0, none⟩ = some (.int .u64 (r.t : Int)) ∧ w'.cell? ⟨wr.heap.size, 1, none⟩ = some (.slice r.a r.v.length r.c))
                (exact ⟨st.2.2.1.1, st.2.2.1.2⟩)
                (first
                  | (go_at_call 29; (with_reducible refine (C37 _).out.mono ?_); rintro e wA hA; (first | (obtain ⟨a1, k1, rfl, stN, s37, kb⟩ := st.call hA) | (obtain ⟨a1, k1, rfl, stN, s37, kb⟩ := st.drew.call hA)); clear st hA kb; have st := stN; clear stN)
                  | (go_at_call 29; (with_reducible refine (C43 _).out.mono ?_); rintro e wB hB; (first | (obtain ⟨a2, k2, rfl, stN, s43, kb⟩ := st.call hB) | (obtain ⟨a2, k2, rfl, stN, s43, kb⟩ := st.drew.call hB)); have s37N := s37.below kb; clear st hB kb s37; have st := stN; have s37 := s37N; clear stN s37N)
                  | (refine step_cat rfl _ _ 26 rfl tyBs w.heap.size st.1 rfl rfl (s37).1 (nums_oneCell _ _) (by (try rw [List.length_append]); (try rw [List.length_append]); omega) (by unfold maxLen; (try rw [List.length_append]); (try rw [List.length_append]); omega) st.2.1.size ?_; intro vN wN oN gN fN; obtain ⟨stN, kp⟩ := st.grew (s37).1.len oN gN fN; (try (have s37N := kp _ _ _ _ s37; clear s37; have s37 := s37N; clear s37N)); (try (have s43N := kp _ _ _ _ s43; clear s43; have s43 := s43N; clear s43N)); clear st oN gN fN kp; have st := stN; clear stN)
                  | (refine step_cat rfl _ _ 26 rfl tyBs w.heap.size st.1 rfl rfl (s43).1 (nums_oneCell _ _) (by (try rw [List.length_append]); (try rw [List.length_append]); omega) (by unfold maxLen; (try rw [List.length_append]); (try rw [List.length_append]); omega) st.2.1.size ?_; intro vN wN oN gN fN; obtain ⟨stN, kp⟩ := st.grew (s43).1.len oN gN fN; (try (have s37N := kp _ _ _ _ s37; clear s37; have s37 := s37N; clear s37N)); (try (have s43N := kp _ _ _ _ s43; clear s43; have s43 := s43N; clear s43N)); clear st oN gN fN kp; have st := stN; clear stN)
                  | (refine step_cat rfl _ _ 26 rfl tyBs w.heap.size st.1 rfl rfl (st.arg A46.out).1 (nums_oneCell _ _) (by (try rw [List.length_append]); (try rw [List.length_append]); omega) (by unfold maxLen; (try rw [List.length_append]); (try rw [List.length_append]); omega) st.2.1.size ?_; intro vN wN oN gN fN; obtain ⟨stN, kp⟩ := st.grew (st.arg A46.out).1.len oN gN fN; (try (have s37N := kp _ _ _ _ s37; clear s37; have s37 := s37N; clear s37N)); (try (have s43N := kp _ _ _ _ s43; clear s43; have s43 := s43N; clear s43N)); clear st oN gN fN kp; have st := stN; clear stN))
              go_wp2
              go_roundw
              case rel => exact ⟨0 + 1, _, by omega, rfl, by go_num, by rw [HN.out]; exact st.1, st.2.1, HS, by rw [HN.out]; (repeat rw [List.length_append]); omega⟩
              case measure => simp [intOf]; omega
            | succ j =>
              obtain ⟨q, hq⟩ := get_some HL.out (show j < n by omega)
              obtain ⟨b', off', hb', d0, _, gq⟩ := (h.below hb).cells hq
              simp only [Option.some.injEq, Addr.mk.injEq, and_true] at hb'
              obtain ⟨rfl, rfl⟩ := hb'
              have ej : (((j + 1 : Nat) : Int) - 1) = (j : Int) := by omega
              have tq : decide (r.t ≤ q.t) = false := by
                simp [prevT, map_pr hq] at h1
                rw [decide_eq_false_iff_not]; omega
              have tk : decide (0 < j + 1) = true := by simp
              have d1 := (bb.cell (World.block_lt_of_cell? wr _ d0)).trans d0
              have ST := hid st0
              clear h1 hq gq d0 bb HI h st0 HP hb
              go_wp2_with fail
              go_quiet (fail)
              go_wp2_with fail
              have st := ST.out.dN nq
              clear ST
              go_region_held3 (fun w' => w'.cell? ⟨wr.heap.size, 0, none⟩ = some (.int .u64 (r.t : Int)) ∧ w'.cell? ⟨wr.heap.size, 1, none⟩ = some (.slice r.a r.v.length r.c))
                (exact ⟨st.2.2.1.1, st.2.2.1.2⟩)
                (first
                  | (go_at_call 29; (with_reducible refine (C37 _).out.mono ?_); rintro e wA hA; (first | (obtain ⟨a1, k1, rfl, stN, s37, kb⟩ := st.call hA) | (obtain ⟨a1, k1, rfl, stN, s37, kb⟩ := st.drew.call hA)); clear st hA kb; have st := stN; clear stN)
                  | (go_at_call 29; (with_reducible refine (C43 _).out.mono ?_); rintro e wB hB; (first | (obtain ⟨a2, k2, rfl, stN, s43, kb⟩ := st.call hB) | (obtain ⟨a2, k2, rfl, stN, s43, kb⟩ := st.drew.call hB)); have s37N := s37.below kb; clear st hB kb s37; have st := stN; have s37 := s37N; clear stN s37N)
                  | (refine step_cat rfl _ _ 26 rfl tyBs w.heap.size st.1 rfl rfl (s37).1 (nums_oneCell _ _) (by (try rw [List.length_append]); (try rw [List.length_append]); omega) (by unfold maxLen; (try rw [List.length_append]); (try rw [List.length_append]); omega) st.2.1.size ?_; intro vN wN oN gN fN; obtain ⟨stN, kp⟩ := st.grew (s37).1.len oN gN fN; (try (have s37N := kp _ _ _ _ s37; clear s37; have s37 := s37N; clear s37N)); (try (have s43N := kp _ _ _ _ s43; clear s43; have s43 := s43N; clear s43N)); clear st oN gN fN kp; have st := stN; clear stN)
                  | (refine step_cat rfl _ _ 26 rfl tyBs w.heap.size st.1 rfl rfl (s43).1 (nums_oneCell _ _) (by (try rw [List.length_append]); (try rw [List.length_append]); omega) (by unfold maxLen; (try rw [List.length_append]); (try rw [List.length_append]); omega) st.2.1.size ?_; intro vN wN oN gN fN; obtain ⟨stN, kp⟩ := st.grew (s43).1.len oN gN fN; (try (have s37N := kp _ _ _ _ s37; clear s37; have s37 := s37N; clear s37N)); (try (have s43N := kp _ _ _ _ s43; clear s43; have s43 := s43N; clear s43N)); clear st oN gN fN kp; have st := stN; clear stN)
                  | (refine step_cat rfl _ _ 26 rfl tyBs w.heap.size st.1 rfl rfl (st.arg A46.out).1 (nums_oneCell _ _) (by (try rw [List.length_append]); (try rw [List.length_append]); omega) (by unfold maxLen; (try rw [List.length_append]); (try rw [List.length_append]); omega) st.2.1.size ?_; intro vN wN oN gN fN; obtain ⟨stN, kp⟩ := st.grew (st.arg A46.out).1.len oN gN fN; (try (have s37N := kp _ _ _ _ s37; clear s37; have s37 := s37N; clear s37N)); (try (have s43N := kp _ _ _ _ s43; clear s43; have s43 := s43N; clear s43N)); clear st oN gN fN kp; have st := stN; clear stN))
              go_wp2
              go_roundw
              case rel => exact ⟨j + 1 + 1, _, by omega, rfl, by go_num, by rw [HN.out]; exact st.1, st.2.1, HS, by rw [HN.out]; (repeat rw [List.length_append]); omega⟩
              case measure => simp [intOf]; omega
      · obtain rfl : k = n := by omega
        have e0 : (rs.map LR.pr).drop k = [] := List.drop_eq_nil_of_le (by rw [List.length_map, HL.out]; exact Nat.le_refl _)
        have e1 : (rs.map LR.pr).take k = rs.map LR.pr := List.take_of_length_le (by rw [List.length_map, HL.out]; exact Nat.le_refl _)
        rw [e1] at hown
        rw [e0] at he
        have E0 := hid (show encE (rs.map LR.pr) = 0 by rw [hE.out, he.out]; rfl)
        have HO := hid (SlV.of_owns hown)
        clear hown he hle e0 e1 h
        go_wp2
        go_ret2
        exact ⟨_, by rw [E0.out]; rfl, by rw [if_pos E0.out]; exact HO.out, hb⟩
  · have t0 : decide ((n : Int) > 256) = true := by rw [decide_eq_true_eq]; omega
    have F := hid (EncRes.bad (w := w) (w' := w) (rs := rs.map LR.pr) (z := 4) (by unfold encE; rw [if_pos (by rw [List.length_map, HL.out]; omega)]; rfl) (by decide) (Below.refl _ _))
    go_enter Tryd.func17, Tryd.ntmps17
    go_wp2
    go_ret2
    exact F.out
end Go.Proofs.YtgaidleepjkldaaDoor
