/- TableRuns' arms: Drop. -/
import Derived.Test.YtibjkpejbihcpaaTabL
namespace Go.Proofs.Ytibjkpejbihcpaa
open Go.RowKit

def DropI (w : World) (v : Value) (K : List Quo) (wr : World) : Prop := wr.ownsRow w.heap.size 43 71 v K.length (K.flatMap Quo.cells) ∧ Below w.heap.size w wr
theorem own_quote {w : World} {B g n c : Nat} {L : List Quo} (h : w.ownsRow B 43 71 (.slice (some ⟨g, 0, none⟩) n c) n (L.flatMap Quo.cells)) (hok : ∀ q ∈ L, q.ok) {j : Nat} {q : Quo} (hj : L[j]? = some q) : w.rangeAt g (j * 71) q.cells := fun k v hv => by
  have hkl : k < q.cells.length := (List.getElem?_eq_some_iff.1 hv).1
  have hq := Quo.len (hok q (List.mem_of_getElem? hj))
  have hjl : j < L.length := (List.getElem?_eq_some_iff.1 hj).1
  have hl := h.1
  rw [flatQ_len hok] at hl
  rw [h.cellAt (j * 71 + k) (by omega)]
  exact flatQ_at hok hj hv
theorem take_stepF {α : Type} (f : α → Bool) {L : List α} {k : Nat} {p : α} (h : L[k]? = some p) : (L.take (k + 1)).filter f = (L.take k).filter f ++ if f p = true then [p] else [] := by
  have hk : k < L.length := (List.getElem?_eq_some_iff.1 h).1
  have e : L[k] = p := (List.getElem?_eq_some_iff.1 h).2
  rw [List.take_succ_eq_append_getElem hk, e, List.filter_append]
  by_cases hf : f p = true
  · simp [hf]
  · simp [hf]
set_option maxRecDepth 1000000 in
set_option maxHeartbeats 16000000 in
theorem arm6 {w0 : World} {B tb mb : Nat} {a : Option Addr} {l cap : Nat} {ls : List Stp} {i : Nat} {M : QM} {n : Nat} {L : List Quo} {x : Stp} {at' : Int} {q : Quo} {G R : Nat} {T : Array Value} {w : World} (h : ArmI w0 B tb mb a l cap ls i M n L x at' q G R T w) :
    (runC 66).wp Try.prog (ArmO w0 B tb mb a l cap ls i) ⟨T, []⟩ w := by
  have H := hid h
  have e0 := h.sit.t0
  have e3 := h.sit.t3
  have e5 := h.sit.t5
  have e6 := h.t6
  have e7 := h.t7
  have e9 := h.t9
  have e10 := h.t10
  have e11 := h.t11
  obtain ⟨v4, e4⟩ : ∃ v4, tm T 4 = v4 := ⟨_, rfl⟩
  rw [frameT h.sit.size, e0, e3, e4, e5, e6, e7, e9, e10, e11]
  have e4' := hid e4
  have XOK := hid h.xok
  have QOK := hid h.qok
  have lo := h.sit.lo
  have gr := h.gr
  have glt := (Array.getElem?_eq_some_iff.1 h.s).1
  have rlt := (Array.getElem?_eq_some_iff.1 h.q).1
  have f1 := gen_range (row_range h.s) 1 32
  rw [Stp.no_at h.xok] at f1
  have HS := hid h.s
  have HQ := hid h.q
  have un := Try.underlying30
  have hiH : (Try.prog.info? 30).map (·.size) = some (nums .u8 x.no).length := by rw [nums_length, h.xok.nl]; exact infoH
  clear e0 e3 e4 e5 e6 e7 e9 e10 e11 h
  conv => arg 2; whnf
  have c70 : w.cell? ⟨G, 70, none⟩ = some (.int .i64 x.h) := gen_cell (j := 70) (row_range HS.out) (Stp.get XOK.out 5)
  obtain ⟨ad, c4, rfl, hrd⟩ : ∃ ad c4, v4 = .slice ad n c4 ∧ Rd w 71 ad n c4 (L.flatMap Quo.cells) := Rd.of_owns (e4'.out ▸ H.out.sit.own)
  have own1 := hid (e4'.out ▸ H.out.sit.own)
  have lenL := hid H.out.sit.tl.len
  have n80 := hid (show n ≤ 80 by have := H.out.less; have := H.out.sit.few; omega)
  have made := hid (World.ownsRow_made w #[] 0 (base := w.heap.size) (e := 43) (size := 71) (Nat.le_refl _) (by simp) (by simp))
  have mb0 := hid ((Below.refl w.heap.size w).alloc (Nat.le_refl _) (.cells #[] 43))
  have unQ := Try.underlying43
  have hzi : ((Try.prog.info? 43).bind (·.zero)).isSome = true := by kernel_rfl
  have hiQ : (Try.prog.info? 43).map (·.size) = some 71 := infoQ
  have ZQ := zeroQ
  have hneQ := zQ_ne
  clear f1 hrd
  go_wp2_with (fail)
  clear c70
  go_loopw [13, 247] (fun x13 x247 wr => ∃ k : Nat, k ≤ n ∧ x247 = .int .i64 (k : Int) ∧ (∃ v, v = x13 ∧ DropI w v ((L.take k).filter (keepQ x.h)) wr)) (fun _ x247 _ => n - (intOf x247).toNat)
  case atStart => exact ⟨0, by omega, rfl, _, rfl, made.out, mb0.out⟩
  case round =>
    obtain ⟨k, hk, rfl, v13, rfl, hD⟩ := hrel
    have HD := hid hD
    clear hD
    by_cases hlt : k < n
    · obtain ⟨p, hp⟩ : ∃ p, L[k]? = some p := ⟨L[k]'(by rw [lenL.out]; omega), List.getElem?_eq_getElem _⟩
      have pok := hid (H.out.sit.tl.ok p (List.mem_of_getElem? hp))
      obtain ⟨g, c5, e5⟩ := own_slice own1.out (by omega)
      simp only [Value.slice.injEq, true_and] at e5
      obtain ⟨rfl, rfl⟩ := e5
      have glt4 := (own1.out.lt g rfl).2
      have row := range_keep HD.out.2 (own_quote own1.out H.out.sit.tl.ok hp)
      have hil := hid (infoQl pok.out)
      have hia := hid (infoQa pok.out)
      have hza := hid (zQ_as pok.out)
      have ho1 := hid (all_oneCell_toArray (Quo.one p))
      have tlt : decide (k < n) = true := decide_eq_true hlt
      have HP := hid hp
      clear hp
      have LA := laid wr zQ p.cells.toArray 43
      have BA0 := hid LA.2
      go_upto_region 69 with (fail)
      go_upto_region 70 with (first | refine wpList_load_mid rfl _ _ rfl g (k * 71) rfl p.cells _ row unQ rfl hil.out ?_ | (with_reducible refine wpList_store_row rfl _ _ _ rfl wr.heap.size p.cells.toArray rfl rfl _ _ (heap_alloc_new wr _) hia.out hza.out ho1.out ?_; generalize (wr.alloc (Obj.cells zQ 43)).setRow wr.heap.size p.cells.toArray = w2 at *))
      clear BA0
      have RA := hid (row_range LA.1)
      have HA := hid LA.1
      have BA := hid LA.2
      clear LA row
      have W1 := hid (show wr.heap.size ≤ w2.heap.size from BA.out.size)
      have hDs := HD.out.2.size
      have o2 := hid (own_below HD.out.1 BA.out)
      have hB2 : w.heap.size ≤ w2.heap.size := Nat.le_trans hDs W1.out
      have hcs : p.cells.toArray.size = 71 := by rw [List.size_toArray]; exact Quo.len pok.out
      have hfl : ((L.take k).filter (keepQ x.h)).length < 4294967296 := by
        have h1 := List.length_filter_le (keepQ x.h) (L.take k)
        have h2 := List.length_take_le k L
        have := n80.out
        omega
      have hS2 := hid (heap_keep (heap_keep HS.out HD.out.2) BA.out)
      obtain ⟨K, hK⟩ : ∃ K, K = wr.heap.size := ⟨_, rfl⟩
      rw [← hK] at RA HA ⊢
      have NXT := hid (take_stepF (keepQ x.h) HP.out)
      clear hK hDs
      have c70 : w2.cell? ⟨G, 70, none⟩ = some (.int .i64 x.h) := gen_cell (j := 70) (row_range hS2.out) (Stp.get XOK.out 5)
      have d66 : w2.cell? ⟨K, 66, none⟩ = some (.int .i64 p.st) := gen_cell (j := 66) RA.out (Quo.get pok.out 2)
      have d69 : w2.cell? ⟨K, 69, none⟩ = some (.int .i64 p.til) := gen_cell (j := 69) RA.out (Quo.get pok.out 5)
      have d70 : w2.cell? ⟨K, 70, none⟩ = some (.int .u64 (p.used : Int)) := gen_cell (j := 70) RA.out (Quo.get pok.out 6)
      have KEEP : keepQ x.h p = true → ∀ v5 w5, w5.ownsRow w.heap.size 43 71 v5 (((L.take k).filter (keepQ x.h)).length + 1) (((L.take k).filter (keepQ x.h)).flatMap Quo.cells ++ p.cells.toArray.toList) → Below w.heap.size w2 w5 → DropI w v5 ((L.take (k + 1)).filter (keepQ x.h)) w5 := by
        intro hkp v5 w5 h5 b5
        rw [NXT.out, if_pos hkp]
        refine ⟨by simpa using h5, ((HD.out.2).trans (BA.out.mono HD.out.2.size)).trans b5⟩
      have SKIP : keepQ x.h p = false → DropI w v13 ((L.take (k + 1)).filter (keepQ x.h)) w2 := by
        intro hkp
        rw [NXT.out, if_neg (by simp [hkp]), List.append_nil]
        exact ⟨o2.out, (HD.out.2).trans (BA.out.mono HD.out.2.size)⟩
      have KP := hid KEEP
      have SK := hid SKIP
      clear KEEP SKIP
      have unS := Try.underlying57
      have ltn := hlt
      have k80 : k < 80 := by have := n80.out; omega
      clear hlt
      by_cases hu : 0 < p.used
      · have kq := hid (show keepQ x.h p = true by unfold keepQ; rw [decide_eq_true hu]; rfl)
        have t1 : decide ((p.used : Int) > 0) = true := decide_eq_true (by omega)
        have t2 : decide ((0 : Int) < p.used) = true := decide_eq_true (by omega)
        have t3 : decide (0 < p.used) = true := decide_eq_true hu
        clear hu
        go_upto_region 71 with (fail)
        go_wp2_with (first | with_reducible refine wpList_load_mid rfl _ _ rfl K 0 rfl p.cells _ RA.out unQ rfl hil.out ?_ | with_reducible refine wpList_lit1 rfl _ _ _ rfl rfl unS hiQ hzi hcs (by decide) (by decide) ?_ | (at_builtin; refine wpList_push rfl _ _ 57 rfl tyQs w.heap.size o2.out rfl rfl hcs (by simpa using ho1.out) hfl (by decide) hB2 ?_; intro v5 w5 own5 b5 hs5 _; have O5 := hid own5; have B5 := hid b5; clear own5 b5 hs5))
        go_roundw
        case rel => exact ⟨k + 1, by omega, by go_num, v5, rfl, KP.out kq.out v5 w5 O5.out B5.out⟩
        case measure => simp [intOf]; omega
      have t1 : decide ((p.used : Int) > 0) = false := decide_eq_false (by omega)
      have t2 : decide ((0 : Int) < p.used) = false := decide_eq_false (by omega)
      have t3 : decide (0 < p.used) = false := decide_eq_false hu
      by_cases hs0 : p.st = 0
      · have kq := hid (show keepQ x.h p = true by unfold keepQ; rw [decide_eq_true hs0]; simp)
        have t4 : (p.st == 0) = true := by simp [hs0]
        clear hs0 hu
        go_upto_region 71 with (fail)
        go_wp2_with (first | with_reducible refine wpList_load_mid rfl _ _ rfl K 0 rfl p.cells _ RA.out unQ rfl hil.out ?_ | with_reducible refine wpList_lit1 rfl _ _ _ rfl rfl unS hiQ hzi hcs (by decide) (by decide) ?_ | (at_builtin; refine wpList_push rfl _ _ 57 rfl tyQs w.heap.size o2.out rfl rfl hcs (by simpa using ho1.out) hfl (by decide) hB2 ?_; intro v5 w5 own5 b5 hs5 _; have O5 := hid own5; have B5 := hid b5; clear own5 b5 hs5))
        go_roundw
        case rel => exact ⟨k + 1, by omega, by go_num, v5, rfl, KP.out kq.out v5 w5 O5.out B5.out⟩
        case measure => simp [intOf]; omega
      have t4 : (p.st == 0) = false := by simp [hs0]
      by_cases hs1 : p.st = 1
      case neg =>
        have kq := hid (show keepQ x.h p = false by unfold keepQ; rw [decide_eq_false hu, decide_eq_false hs0, decide_eq_false hs1]; rfl)
        have t5 : (p.st == 1) = false := by simp [hs1]
        clear hs0 hs1 hu
        go_wp2_with (fail)
        go_roundw
        case rel => exact ⟨k + 1, by omega, by go_num, v13, rfl, SK.out kq.out⟩
        case measure => simp [intOf]; omega
      have t5 : (p.st == 1) = true := by simp [hs1]
      by_cases hh : x.h ≤ p.til
      · have kq := hid (show keepQ x.h p = true by unfold keepQ; rw [decide_eq_true hs1, decide_eq_true hh]; simp)
        have t6 : decide (x.h ≤ p.til) = true := decide_eq_true hh
        clear hs0 hs1 hu hh
        go_upto_region 71 with (fail)
        go_wp2_with (first | with_reducible refine wpList_load_mid rfl _ _ rfl K 0 rfl p.cells _ RA.out unQ rfl hil.out ?_ | with_reducible refine wpList_lit1 rfl _ _ _ rfl rfl unS hiQ hzi hcs (by decide) (by decide) ?_ | (at_builtin; refine wpList_push rfl _ _ 57 rfl tyQs w.heap.size o2.out rfl rfl hcs (by simpa using ho1.out) hfl (by decide) hB2 ?_; intro v5 w5 own5 b5 hs5 _; have O5 := hid own5; have B5 := hid b5; clear own5 b5 hs5))
        go_roundw
        case rel => exact ⟨k + 1, by omega, by go_num, v5, rfl, KP.out kq.out v5 w5 O5.out B5.out⟩
        case measure => simp [intOf]; omega
      have kq := hid (show keepQ x.h p = false by unfold keepQ; rw [decide_eq_false hu, decide_eq_false hs0, decide_eq_false hh]; simp)
      have t6 : decide (x.h ≤ p.til) = false := decide_eq_false hh
      clear hs0 hs1 hu hh
      go_wp2_with (fail)
      go_roundw
      case rel => exact ⟨k + 1, by omega, by go_num, v13, rfl, SK.out kq.out⟩
      case measure => simp [intOf]; omega
    · obtain rfl : k = n := by omega
      have hS3 := heap_keep HS.out HD.out.2
      have c70 : wr.cell? ⟨G, 70, none⟩ = some (.int .i64 x.h) := gen_cell (j := 70) (row_range hS3) (Stp.get XOK.out 5)
      have hT := List.take_of_length_le (Nat.le_of_eq lenL.out)
      rw [hT] at HD
      obtain ⟨a5, c5, rfl, _⟩ := Rd.of_owns HD.out.1
      have tab1 := hid (H.out.sit.tab.below HD.out.2)
      obtain ⟨m, hm⟩ : ∃ m, m = (L.filter (keepQ x.h)).length := ⟨_, rfl⟩
      rw [← hm]
      have HM := hid hm
      clear hS3 hT hm hlt made mb0 ZQ hneQ hzi hiQ
      go_wp2_with (fail)
      refine (drop_walk tb mb k M x.h wr tab1.out).mono ?_
      rintro e w3 ⟨kd, n', rfl, hkn, tab3, fr3⟩
      have TL3 := hid (H.out.sit.tl.drop tab3)
      have hln : m = n' := HM.out.trans TL3.out.len
      have ew : IntKind.i64.wrap ((k : Int) - (m : Int)) = (kd : Int) := by have := n80.out; rw [IntKind.wrap_i64]; omega
      have TB3 := hid tab3
      have FR3 := hid fr3
      have HLN := hid hln
      clear tab3 fr3 hln hkn c70
      go_wp2_with (fail)
      have hDs := HD.out.2.size
      refine ⟨rfl, rfl, dropM M x.h, n', L.filter (keepQ x.h), 0, ?_, rfl, rfl⟩
      have hown : wr.ownsRow B 43 71 (.slice a5 m c5) n' ((L.filter (keepQ x.h)).flatMap Quo.cells) := by
        have h0 := own_mono HD.out.1 lo.2.2.2.2
        rw [← HLN.out]
        first | exact h0 | (rw [← HM.out] at h0; exact h0)
      refine H.out.sit.go rfl rfl rfl rfl TB3.out TL3.out (Far.own hown FR3.out (fun e => by have := (hown.lt _ e).1; omega)) ?_ ?_
      · exact (HD.out.2.mono (by omega)).trans (FR3.out.below lo.1 (by omega))
      · have h1 := List.length_filter_le (keepQ x.h) L
        have h2 := TL3.out.len
        have h3 := lenL.out
        have h4 := H.out.less
        omega
end Go.Proofs.Ytibjkpejbihcpaa
