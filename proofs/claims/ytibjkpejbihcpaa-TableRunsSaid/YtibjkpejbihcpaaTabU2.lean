/- TableRuns: behind the steps. -/
import Derived.Test.YtibjkpejbihcpaaTabU1
import Derived.Test.YtibjkpejbihcpaaSr
namespace Go.Proofs.Ytibjkpejbihcpaa
open Go.RowKit

theorem cb_total : ∀ a b : List UInt8, ¬ Lib.compareBytes b a < 0 → a ≠ b → Lib.compareBytes a b < 0 := by
  intro a
  induction a with
  | nil =>
    intro b _ hn
    cases b with
    | nil => exact absurd rfl hn
    | cons y r => simp [Lib.compareBytes]
  | cons x r ih =>
    intro b h hn
    cases b with
    | nil => simp [Lib.compareBytes] at h
    | cons y s =>
      rcases cb_cases x y r s with ⟨h1, h2⟩ | ⟨h1, h2⟩ | ⟨h1, h2⟩
      · rw [h2]; omega
      · rcases cb_cases y x s r with ⟨h3, h4⟩ | ⟨h3, h4⟩ | ⟨h3, h4⟩
        · rw [h4] at h; omega
        · omega
        · omega
      · rcases cb_cases y x s r with ⟨h3, h4⟩ | ⟨h3, h4⟩ | ⟨h3, h4⟩
        · omega
        · omega
        · rw [h4] at h
          rw [h2]
          refine ih s h (fun e => hn ?_)
          rw [e, UInt8.toNat_inj.1 h1]
theorem u8s_inj : ∀ {xs ys : List Nat}, (∀ d ∈ xs, d < 256) → (∀ d ∈ ys, d < 256) → u8s xs = u8s ys → xs = ys
  | [], [], _, _, _ => rfl
  | [], _ :: _, _, _, h => by simp [u8s] at h
  | _ :: _, [], _, _, h => by simp [u8s] at h
  | x :: xs, y :: ys, hx, hy, h => by
    simp only [u8s, List.map_cons, List.cons.injEq] at h
    have h1 := congrArg UInt8.toNat h.1
    have bx := hx x (by simp)
    have by' := hy y (by simp)
    simp [UInt8.toNat_ofNat, Nat.mod_eq_of_lt bx, Nat.mod_eq_of_lt by'] at h1
    rw [h1, u8s_inj (fun d hd => hx d (by simp [hd])) (fun d hd => hy d (by simp [hd])) h.2]
/-- what All hands back rises -/
theorem all_rises {M : QM} {n : Nat} {L qs : List Quo} {ks : List (List Nat)} (hT : TL M n L) (hk : ks.Nodup) (hko : ∀ x ∈ ks, EH.ok x) (hM : ∀ x, EH.ok x → ((M x).isSome = true ↔ x ∈ ks)) (hp : qs.Perm (ks.map fun x => (M x).getD qz)) (hs : qs.Pairwise fun p q => ¬ cmpBy q.no p.no < 0) :
    (∀ q ∈ qs, q.ok) ∧ ∀ i p q, qs[i]? = some p → qs[i + 1]? = some q → cmpBy p.no q.no < 0 := by
  have hg : ∀ x ∈ ks, ∃ q, M x = some q ∧ q.no = x ∧ q.ok := fun x hx => by
    obtain ⟨q, hq⟩ := Option.isSome_iff_exists.1 ((hM x (hko x hx)).2 hx)
    have := hq
    rw [hT.eq] at this
    exact ⟨q, hq, (lookL_some this).2, hT.ok q (lookL_some this).1⟩
  have hok : ∀ q ∈ qs, q.ok := fun q hq => by
    obtain ⟨x, hx, rfl⟩ := List.mem_map.1 (hp.mem_iff.1 hq)
    obtain ⟨p, hp, _, h⟩ := hg x hx
    rw [hp]; exact h
  have hmap : (ks.map fun x => (M x).getD qz).map (·.no) = ks := by
    rw [List.map_map]
    conv => rhs; rw [← List.map_id ks]
    refine List.map_congr_left fun x hx => ?_
    obtain ⟨p, hp, hn, _⟩ := hg x hx
    simp [hp, hn]
  have hnd : (qs.map (·.no)).Nodup := by
    have := hp.map (·.no)
    rw [hmap] at this
    exact this.nodup_iff.2 hk
  refine ⟨hok, fun i p q hi hj => ?_⟩
  have hil := (List.getElem?_eq_some_iff.1 hi).1
  have hjl := (List.getElem?_eq_some_iff.1 hj).1
  have ei := (List.getElem?_eq_some_iff.1 hi).2
  have ej := (List.getElem?_eq_some_iff.1 hj).2
  have h1 := List.pairwise_iff_getElem.1 hs i (i + 1) hil hjl (by omega)
  rw [ei, ej] at h1
  have h2 : p.no ≠ q.no := by
    have := List.pairwise_iff_getElem.1 hnd i (i + 1) (by simpa using hil) (by simpa using hjl) (by omega)
    simpa [ei, ej] using this
  have bp := (hok p (List.mem_of_getElem? hi)).nb
  have bq := (hok q (List.mem_of_getElem? hj)).nb
  exact cb_total _ _ h1 (fun e => h2 (u8s_inj bp bq e))
theorem rd_no {w : World} {ad : Option Addr} {n c m : Nat} {qs : List Quo} {p : Quo} (h : Rd w 71 ad n c (qs.flatMap Quo.cells)) (hok : ∀ q ∈ qs, q.ok) (hp : qs[m]? = some p) : ∃ g off, ad = some ⟨g, off, none⟩ ∧ Sl .u8 w (some ⟨g, off + m * 71, none⟩) 32 32 p.no := by
  obtain ⟨h1, h2, h3, h4, b, off, ha, hc⟩ := h
  have hm := (List.getElem?_eq_some_iff.1 hp).1
  rw [flatQ_len hok] at h1
  refine ⟨b, off, ha (by omega), by simp [(hok p (List.mem_of_getElem? hp)).nl], Nat.le_refl _, by decide, by simp, b, off + m * 71, fun _ => rfl, fun j u hj => ?_⟩
  rw [Nat.add_assoc]
  refine hc _ _ (flatQ_at hok hp ?_)
  rw [Quo.no_front]
  exact front_get hj
def EndO (w0 : World) (e : Ending) (w' : World) : Prop := e = .returned (.bool true) ∧ Below w0.heap.size w0 w'
set_option maxRecDepth 1000000 in
set_option maxHeartbeats 16000000 in
theorem endC {w0 : World} {B tb mb : Nat} {a : Option Addr} {l cap : Nat} {i : Nat} {T : Array Value} {w : World} (h : LoopI w0 B tb mb a l cap i T w) : (runC 85).wp Try.prog (bodyPost Try.prog Try.f7 (EndO w0)) ⟨T, []⟩ w := by
  have e3 := h.t3
  rw [frameT h.size, e3]
  obtain ⟨M, n, L, tab, tl, _, hni⟩ := h.held
  have n80 : n ≤ 80 := by have := h.i80; omega
  have bel := hid h.bel
  have TLH := hid tl
  have TB := hid tab
  clear h e3 tl tab
  conv => arg 2; whnf
  go_wp2_with (fail)
  refine (all_walk tb mb n M w TB.out).mono ?_
  rintro e w1 ⟨a1, c1, qs, ks, rfl, hql, hrd, ⟨hk1, hk2, hk3, hk4⟩, hs, _, b1⟩
  obtain ⟨hok, hrise⟩ := all_rises TLH.out hk1 hk2 hk3 hk4 hs
  have OK := hid hok
  have RS := hid hrise
  have RD := hid hrd
  have QL := hid hql
  have BL := hid (bstep bel.out b1)
  clear hok hrise hrd hql b1 hk1 hk2 hk3 hk4 hs bel
  go_upto_region 87 with (fail)
  go_loopw [21] (fun x21 wr => ∃ k : Nat, 1 ≤ k ∧ k ≤ 80 + 1 ∧ x21 = .int .i64 (k : Int) ∧ Below w1.heap.size w1 wr) (fun x21 _ => n - (intOf x21).toNat)
  case atStart => exact ⟨1, by omega, by omega, rfl, Below.refl _ _⟩
  case round =>
    obtain ⟨k, hk1, hk80, rfl, hb⟩ := hrel
    have HB := hid hb
    clear hb
    by_cases hlt : k < n
    · obtain ⟨m, hm⟩ : ∃ m, k = m + 1 := ⟨k - 1, by omega⟩
      obtain ⟨p, hp⟩ : ∃ p, qs[m]? = some p := ⟨qs[m]'(by rw [QL.out]; omega), List.getElem?_eq_getElem _⟩
      obtain ⟨q, hq⟩ : ∃ q, qs[k]? = some q := ⟨qs[k]'(by rw [QL.out]; omega), List.getElem?_eq_getElem _⟩
      obtain ⟨g, off, ha, s1⟩ := rd_no RD.out OK.out hp
      obtain ⟨_, _, ha', s2⟩ := rd_no RD.out OK.out hq
      rw [ha] at ha'
      simp only [Option.some.injEq, Addr.mk.injEq, and_true] at ha'
      obtain ⟨rfl, rfl⟩ := ha'
      subst ha
      have S1 := hid (s1.below HB.out)
      have S2 := hid (s2.below HB.out)
      have hneg : decide (cmpBy p.no q.no ≥ 0) = false := decide_eq_false (by have := RS.out m p q hp (hm ▸ hq); omega)
      have hneg' : decide (0 ≤ cmpBy p.no q.no) = false := hneg
      have C := fun (wx : World) (h1 : Sl .u8 wx (some ⟨g, off + m * 71, none⟩) 32 32 p.no) (h2 : Sl .u8 wx (some ⟨g, off + k * 71, none⟩) 32 32 q.no) => hid ((bcmp_walk _ _ _ _ _ _ p.no q.no wx h1 h2).mono fun e w' h => (⟨h.1, h.2.symm⟩ : e = .returned (.int .i64 (cmpBy p.no q.no)) ∧ wx = w'))
      have HM := hid hm
      have e1 : IntKind.i64.wrap ((k : Int) - 1) = (m : Int) := by rw [IntKind.wrap_i64]; omega
      have t1 : decide (k < n) = true := decide_eq_true hlt
      have t2 : decide (m < n) = true := decide_eq_true (by omega)
      have hul : k < 80 := by omega
      have i1 : (0 : Int) ≤ (m : Int) := by omega
      have i2 : (m : Int) < (n : Int) := by omega
      have i3 : (0 : Int) ≤ (k : Int) := by omega
      have i4 : (k : Int) < (n : Int) := by omega
      have i5 : m < n := by omega
      have i6 : k < n := by omega
      clear hp hq s1 s2 hm hlt
      go_upto_region 89 with (fail)
      go_region_held3 (fun w' => Below wr.heap.size wr w') (exact (Below.refl _ _).drew) (first | (go_at_call 27; (refine (C _ (S1.out.below (Below.refl _ _).drew) (S2.out.below (Below.refl _ _).drew)).out.mono ?_); rintro e w21 ⟨rfl, rfl⟩) | fail)
      have hbd := HB.out.drew
      clear C i1 i2 i3 i4 i5 e1
      go_wp2_with (fail)
      go_roundw
      case rel => exact ⟨k + 1, by omega, by omega, by go_num, hbd⟩
      case measure => simp [intOf]; omega
    · have hn : ¬ k < n := hlt
      have t1 : decide (k < n) = false := decide_eq_false hlt
      have B3 := hid (BL.out.trans (HB.out.mono BL.out.size))
      clear hlt hn
      have ZQ := zeroQ
      have hneQ := zQ_ne
      go_wp2_with (fail)
      refine (nil_get hz32 _).mono ?_
      rintro e w2 ⟨rfl, b2⟩
      have B4 := hid (bstep B3.out b2)
      clear b2
      have hz71 := hid (show (Try.prog.info? 43).map (·.size) = some zQ.size by rw [zQ_size]; exact infoQ)
      have hzo := hid (all_oneCell_toArray (Quo.one qz))
      have LA := laid w2 zQ zQ 43
      go_upto_region 93 with (refine wpList_store_row rfl _ _ _ rfl w2.heap.size zQ rfl rfl _ _ (heap_alloc_new w2 _) hz71.out rfl hzo.out ?_; generalize (w2.alloc (Obj.cells zQ 43)).setRow w2.heap.size zQ = w3 at *)
      have B5 := hid (bstep B4.out LA.2)
      clear LA ZQ hneQ hz71 hzo
      go_wp2_with (fail)
      refine (nil_ask hz32 h1x true 1 _).mono ?_
      rintro e v0 ⟨rfl, b0⟩
      have C0 := hid (bstep B5.out b0)
      clear b0
      go_wp2_with (fail)
      refine (nil_acc hz32 1 1 1 _).mono ?_
      rintro e v1 ⟨rfl, b1⟩
      have C1 := hid (bstep C0.out b1)
      clear b1
      go_wp2_with (fail)
      refine (nil_rej hz32 _).mono ?_
      rintro e v2 ⟨rfl, b2⟩
      have C2 := hid (bstep C1.out b2)
      clear b2
      go_wp2_with (fail)
      refine (nil_sell hz32 rfl 0 1 1 _).mono ?_
      rintro e v3 ⟨rfl, b3⟩
      have C3 := hid (bstep C2.out b3)
      clear b3
      go_wp2_with (fail)
      refine (nil_buy hz32 rfl 0 1 1 _).mono ?_
      rintro e v4 ⟨rfl, b4⟩
      have C4 := hid (bstep C3.out b4)
      clear b4
      go_wp2_with (fail)
      refine (nil_undo hz32 0 _).mono ?_
      rintro e v5 ⟨rfl, b5⟩
      have C5 := hid (bstep C4.out b5)
      clear b5
      go_wp2_with (fail)
      refine (nil_drop 0 _).mono ?_
      rintro e v6 ⟨rfl, rfl⟩
      go_wp2_with (fail)
      refine (nil_all _).mono ?_
      rintro e v7 ⟨rfl, rfl⟩
      go_wp2
      go_ret
      exact ⟨rfl, C5.out⟩
end Go.Proofs.Ytibjkpejbihcpaa
