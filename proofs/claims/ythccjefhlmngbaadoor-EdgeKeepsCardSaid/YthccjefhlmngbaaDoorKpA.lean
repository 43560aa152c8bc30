/- EdgeKeeps: what stands between its pieces; region 20. Printed by wip/kep.py. -/
import Derived.Test.YthccjefhlmngbaaDoorKpl
namespace Go.Proofs.YthccjefhlmngbaaDoor
open Go.RowKit

set_option maxRecDepth 1000000 in
theorem frameK {T : Array Value} (h : T.size = 235) : T = List.toArray (tm T 0 :: tm T 1 :: tm T 2 :: tm T 3 :: tm T 4 :: tm T 5 :: tm T 6 :: tm T 7 :: tm T 8 :: tm T 9 :: tm T 10 :: tm T 11 :: tm T 12 :: tm T 13 :: tm T 14 :: tm T 15 :: tm T 16 :: tm T 17 :: tm T 18 :: tm T 19 :: tm T 20 :: tm T 21 :: tm T 22 :: tm T 23 :: tm T 24 :: tm T 25 :: tm T 26 :: tm T 27 :: tm T 28 :: tm T 29 :: tm T 30 :: tm T 31 :: tm T 32 :: tm T 33 :: tm T 34 :: tm T 35 :: tm T 36 :: tm T 37 :: tm T 38 :: tm T 39 :: tm T 40 :: tm T 41 :: tm T 42 :: tm T 43 :: tm T 44 :: tm T 45 :: tm T 46 :: tm T 47 :: tm T 48 :: tm T 49 :: tm T 50 :: tm T 51 :: tm T 52 :: tm T 53 :: tm T 54 :: tm T 55 :: tm T 56 :: tm T 57 :: tm T 58 :: tm T 59 :: tm T 60 :: tm T 61 :: tm T 62 :: tm T 63 :: tm T 64 :: tm T 65 :: tm T 66 :: tm T 67 :: tm T 68 :: tm T 69 :: tm T 70 :: tm T 71 :: tm T 72 :: tm T 73 :: tm T 74 :: tm T 75 :: tm T 76 :: tm T 77 :: tm T 78 :: tm T 79 :: tm T 80 :: tm T 81 :: tm T 82 :: tm T 83 :: tm T 84 :: tm T 85 :: tm T 86 :: tm T 87 :: tm T 88 :: tm T 89 :: tm T 90 :: tm T 91 :: tm T 92 :: tm T 93 :: tm T 94 :: tm T 95 :: tm T 96 :: tm T 97 :: tm T 98 :: tm T 99 :: tm T 100 :: tm T 101 :: tm T 102 :: tm T 103 :: tm T 104 :: tm T 105 :: tm T 106 :: tm T 107 :: tm T 108 :: tm T 109 :: tm T 110 :: tm T 111 :: tm T 112 :: tm T 113 :: tm T 114 :: tm T 115 :: tm T 116 :: tm T 117 :: tm T 118 :: tm T 119 :: tm T 120 :: tm T 121 :: tm T 122 :: tm T 123 :: tm T 124 :: tm T 125 :: tm T 126 :: tm T 127 :: tm T 128 :: tm T 129 :: tm T 130 :: tm T 131 :: tm T 132 :: tm T 133 :: tm T 134 :: tm T 135 :: tm T 136 :: tm T 137 :: tm T 138 :: tm T 139 :: tm T 140 :: tm T 141 :: tm T 142 :: tm T 143 :: tm T 144 :: tm T 145 :: tm T 146 :: tm T 147 :: tm T 148 :: tm T 149 :: tm T 150 :: tm T 151 :: tm T 152 :: tm T 153 :: tm T 154 :: tm T 155 :: tm T 156 :: tm T 157 :: tm T 158 :: tm T 159 :: tm T 160 :: tm T 161 :: tm T 162 :: tm T 163 :: tm T 164 :: tm T 165 :: tm T 166 :: tm T 167 :: tm T 168 :: tm T 169 :: tm T 170 :: tm T 171 :: tm T 172 :: tm T 173 :: tm T 174 :: tm T 175 :: tm T 176 :: tm T 177 :: tm T 178 :: tm T 179 :: tm T 180 :: tm T 181 :: tm T 182 :: tm T 183 :: tm T 184 :: tm T 185 :: tm T 186 :: tm T 187 :: tm T 188 :: tm T 189 :: tm T 190 :: tm T 191 :: tm T 192 :: tm T 193 :: tm T 194 :: tm T 195 :: tm T 196 :: tm T 197 :: tm T 198 :: tm T 199 :: tm T 200 :: tm T 201 :: tm T 202 :: tm T 203 :: tm T 204 :: tm T 205 :: tm T 206 :: tm T 207 :: tm T 208 :: tm T 209 :: tm T 210 :: tm T 211 :: tm T 212 :: tm T 213 :: tm T 214 :: tm T 215 :: tm T 216 :: tm T 217 :: tm T 218 :: tm T 219 :: tm T 220 :: tm T 221 :: tm T 222 :: tm T 223 :: tm T 224 :: tm T 225 :: tm T 226 :: tm T 227 :: tm T 228 :: tm T 229 :: tm T 230 :: tm T 231 :: tm T 232 :: tm T 233 :: tm T 234 :: []) := (tm_all h).trans (by kernel_rfl)
noncomputable def kepC (n : Nat) : Code := (Tryd.f6.body.bind (findR n)).getD .skip
/-- the slots that last -/
structure KSl (dl : Int) (qv sv : Value) (tb eb k R : Nat) (T : Array Value) : Prop where
  size : T.size = 235
  t0 : tm T 0 = .int .i64 dl
  t1 : tm T 1 = qv
  t2 : tm T 2 = sv
  t7 : tm T 7 = .pointer (some ⟨tb, 0, none⟩)
  t8 : tm T 8 = .pointer (some ⟨eb, 0, none⟩)
  t10 : tm T 10 = .int .i64 (k : Int)
  t11 : tm T 11 = .pointer (some ⟨R, 0, none⟩)
structure KSo (dl : Int) (qv sv : Value) (tb eb k : Nat) (T : Array Value) : Prop where
  size : T.size = 235
  t0 : tm T 0 = .int .i64 dl
  t1 : tm T 1 = qv
  t2 : tm T 2 = sv
  t7 : tm T 7 = .pointer (some ⟨tb, 0, none⟩)
  t8 : tm T 8 = .pointer (some ⟨eb, 0, none⟩)
  t10 : tm T 10 = .int .i64 (k : Int)
def Kep20 (dl : Int) (qv sv : Value) (tb eb k R : Nat) (p12 : Value) (x : Ed) (w : World) : Exit → Act → World → Prop
  | .normal, A, w' => A.defers = [] ∧ KSl dl qv sv tb eb k R A.tmps ∧ tm A.tmps 12 = p12 ∧ Below w.heap.size w w' ∧ ∃ X Y, tm A.tmps 14 = .pointer (some ⟨X, 0, none⟩) ∧ tm A.tmps 15 = .pointer (some ⟨Y, 0, none⟩) ∧
      w'.heap[X]? = some (.cells x.inn.o.cells.toArray 40 (0, 0)) ∧ w'.heap[Y]? = some (.cells x.out.o.cells.toArray 40 (0, 0)) ∧ w.heap.size ≤ X ∧ w.heap.size ≤ Y ∧ X ≠ Y
  | _, _, _ => False
set_option maxRecDepth 1000000 in
set_option maxHeartbeats 16000000 in
theorem kep20 (dl : Int) (qv sv : Value) (tb eb k R : Nat) (T : Array Value) (w : World) (p12 : Value) (x : Ed) (s : KSl dl qv sv tb eb k R T) (hx : x.ok) (hr : w.heap[R]? = some (.cells x.cells.toArray 60 (0, 0))) (e12 : tm T 12 = p12) : (kepC 20).wp Tryd.prog (Kep20 dl qv sv tb eb k R p12 x w) ⟨T, []⟩ w := by
  have e0 := s.t0
  have e1 := s.t1
  have e2 := s.t2
  have e7 := s.t7
  have e8 := s.t8
  have e10 := s.t10
  have e11 := s.t11
  rw [frameK s.size, e0, e1, e2, e7, e8, e10, e11, e12]
  have ra : w.rangeAt R 2 x.inn.o.cells := by have := (x.hasIn.trans x.inn.hasO).rng (row_range hr); exact this
  have rb : w.rangeAt R 71 x.out.o.cells := by have := ((Ed.hasOut hx).trans x.out.hasO).rng (row_range hr); exact this
  have un := Tryd.underlying40
  have hia := hid (infoOl hx.i.o)
  have hib := hid (infoOl hx.o.o)
  have aia := hid (infoOa hx.i.o)
  have aib := hid (infoOa hx.o.o)
  have zia := hid (zO_as hx.i.o)
  have zib := hid (zO_as hx.o.o)
  have oia := hid (all_oneCell_toArray (Ofr.one x.inn.o))
  have oib := hid (all_oneCell_toArray (Ofr.one x.out.o))
  have ZO := zeroO
  have hneO := zO_ne
  clear hx hr e12
  clear s e0 e1 e2 e7 e8 e10 e11
  conv => arg 2; whnf
  refine wp_region_held_drew (S := fun w' => Below w.heap.size w w') (by kernel_rfl) ((Below.refl _ _).drew) (fun hHeld => ?_)
  try simp only [List.size_toArray, List.length_cons, List.length_nil, Nat.reduceAdd, Array.replicate_succ, Array.replicate_zero, List.push_toArray, List.nil_append, List.cons_append]
  refine wpAnyH_take (i := 0) (oi := { dst := some 110, op := Op.fieldAddr 60 (Operand.tmp 11) 1, type := 0, pos := "law.go:238", after := #[], guard := none }) (v := ?v1001) rfl (by kernel_rfl) (by kernel_rfl) (by kernel_rfl) (fun _ _ _ h => h) (Or.inl ⟨by rfl, ?hy1001⟩) hHeld ?_
  case hy1001 => (intro w hSw; (try dsimp only at hSw); go_simp; (try with_reducible rfl))
  (try simp only [Act.put, List.setIfInBounds_toArray, List.set_cons_zero, List.set_cons_succ])
  refine wpAnyH_take (i := 1) (oi := { dst := some 111, op := Op.fieldAddr 42 (Operand.tmp 110) 1, type := 0, pos := "law.go:238", after := #[{ on := 0, ground := Ground.data }], guard := none }) (v := ?v1002) rfl (by kernel_rfl) (by kernel_rfl) (by kernel_rfl) (fun _ _ _ h => h) (Or.inl ⟨by rfl, ?hy1002⟩) hHeld ?_
  case hy1002 => (intro w hSw; (try dsimp only at hSw); go_simp; (try with_reducible rfl))
  (try simp only [Act.put, List.setIfInBounds_toArray, List.set_cons_zero, List.set_cons_succ])
  refine' wpAnyH_take (i := 2) (oi := { dst := some 112, op := Op.load 40 (Operand.tmp 111), type := 40, pos := "law.go:238", after := #[{ on := 1, ground := Ground.data }], guard := none }) (v := _) rfl (by kernel_rfl) (by kernel_rfl) (by kernel_rfl) (fun _ _ _ h => h) (yieldsIf_load_mid (by rfl) _ _ rfl R 2 rfl x.inn.o.cells _ (fun _ h => range_keep h ra) un rfl hia.out) hHeld ?_
  (try simp only [Act.put, List.setIfInBounds_toArray, List.set_cons_zero, List.set_cons_succ])
  refine wpAnyH_take (i := 3) (oi := { dst := some 113, op := Op.fieldAddr 60 (Operand.tmp 11) 2, type := 0, pos := "law.go:238", after := #[{ on := 8, ground := Ground.gcOnly Departure.lateStores }], guard := none }) (v := ?v1003) rfl (by kernel_rfl) (by kernel_rfl) (by kernel_rfl) (fun _ _ _ h => h) (Or.inl ⟨by rfl, ?hy1003⟩) hHeld ?_
  case hy1003 => (intro w hSw; (try dsimp only at hSw); go_simp; (try with_reducible rfl))
  (try simp only [Act.put, List.setIfInBounds_toArray, List.set_cons_zero, List.set_cons_succ])
  refine wpAnyH_take (i := 4) (oi := { dst := some 114, op := Op.fieldAddr 42 (Operand.tmp 113) 1, type := 0, pos := "law.go:238", after := #[{ on := 3, ground := Ground.data }, { on := 8, ground := Ground.gcOnly Departure.lateStores }], guard := none }) (v := ?v1004) rfl (by kernel_rfl) (by kernel_rfl) (by kernel_rfl) (fun _ _ _ h => h) (Or.inl ⟨by rfl, ?hy1004⟩) hHeld ?_
  case hy1004 => (intro w hSw; (try dsimp only at hSw); go_simp; (try with_reducible rfl))
  (try simp only [Act.put, List.setIfInBounds_toArray, List.set_cons_zero, List.set_cons_succ])
  refine' wpAnyH_take (i := 5) (oi := { dst := some 115, op := Op.load 40 (Operand.tmp 114), type := 40, pos := "law.go:238", after := #[{ on := 4, ground := Ground.data }, { on := 8, ground := Ground.gcOnly Departure.lateStores }], guard := none }) (v := _) rfl (by kernel_rfl) (by kernel_rfl) (by kernel_rfl) (fun _ _ _ h => h) (yieldsIf_load_mid (by rfl) _ _ rfl R 71 rfl x.out.o.cells _ (fun _ h => range_keep h rb) un rfl hib.out) hHeld ?_
  (try simp only [Act.put, List.setIfInBounds_toArray, List.set_cons_zero, List.set_cons_succ])
  refine wpAnyH_ready (rs := [6, 7]) (by kernel_rfl) (by simp) ?_
  refine AllReadyH.cons (o := { dst := some 14, op := Op.alloc 40, type := 0, pos := "law.go:238", after := #[], guard := none }) rfl (fun K hK => ?_) ?_
  have hs4 := hHeld.size; go_simp; (first | refine newZ ?_ | refine newZd ?_); intro wa1 ha1 ba1; have Ha1 := hid ha1; have Ba1 := hid ba1; have la1 := (Array.getElem?_eq_some_iff.1 ha1).1; clear ha1 ba1
  refine hK.out _ _ (by first | exact hHeld.trans (Ba1.out.mono hHeld.size) | exact Ba1.out) (fun hHeld => ?_)
  clear hK K
  (try simp only [List.setIfInBounds_toArray, List.set_cons_zero, List.set_cons_succ])
  refine wpAnyH_ready (rs := [7]) (by kernel_rfl) (by simp) ?_
  refine AllReadyH.cons (o := { dst := some 15, op := Op.alloc 40, type := 0, pos := "law.go:238", after := #[], guard := none }) rfl (fun K hK => ?_) ?_
  have hs5 := hHeld.size; go_simp; (first | refine newZ ?_ | refine newZd ?_); intro wb1 hb1 bb1; have Hb1 := hid hb1; have Bb1 := hid bb1; have lb1 := (Array.getElem?_eq_some_iff.1 hb1).1; clear hb1 bb1
  refine hK.out _ _ (by first | exact hHeld.trans (Bb1.out.mono hHeld.size) | exact Bb1.out) (fun hHeld => ?_)
  clear hK K
  (try simp only [List.setIfInBounds_toArray, List.set_cons_zero, List.set_cons_succ])
  refine wpAnyH_ready (rs := [8]) (by kernel_rfl) (by simp) ?_
  refine AllReadyH.cons (o := { dst := none, op := Op.store 40 (Operand.tmp 14) (Operand.tmp 112), type := 0, pos := "law.go:238", after := #[{ on := 6, ground := Ground.data }, { on := 2, ground := Ground.data }, { on := 0, ground := Ground.phase }, { on := 1, ground := Ground.phase }, { on := 2, ground := Ground.phase }, { on := 3, ground := Ground.textOnly Departure.lateStores }, { on := 4, ground := Ground.textOnly Departure.lateStores }, { on := 5, ground := Ground.textOnly Departure.lateStores }, { on := 6, ground := Ground.phase }, { on := 7, ground := Ground.phase }], guard := none }) rfl (fun K hK => ?_) ?_
  rw [if_pos (by rfl)]; refine wp_store_row _ _ _ rfl _ x.inn.o.cells.toArray rfl rfl _ _ (by first | exact Ha1.out | exact heap_keep Ha1.out Bb1.out) aia.out zia.out oia.out ?_
  refine hK.out _ _ (below_setRow hHeld (by omega) _) (fun hHeld => ?_)
  clear hK K
  (try simp only [List.setIfInBounds_toArray, List.set_cons_zero, List.set_cons_succ])
  refine wpAnyH_ready (rs := [9]) (by kernel_rfl) (by simp) ?_
  refine AllReadyH.cons (o := { dst := none, op := Op.store 40 (Operand.tmp 15) (Operand.tmp 115), type := 0, pos := "law.go:238", after := #[{ on := 7, ground := Ground.data }, { on := 5, ground := Ground.data }, { on := 8, ground := Ground.chain }, { on := 0, ground := Ground.phase }, { on := 1, ground := Ground.phase }, { on := 2, ground := Ground.phase }, { on := 3, ground := Ground.phase }, { on := 4, ground := Ground.phase }, { on := 5, ground := Ground.phase }, { on := 6, ground := Ground.phase }, { on := 7, ground := Ground.phase }, { on := 8, ground := Ground.phase }], guard := none }) rfl (fun K hK => ?_) ?_
  rw [if_pos (by rfl)]; refine wp_store_row _ _ _ rfl _ x.out.o.cells.toArray rfl rfl _ _ (by rw [setRow_other _ _ _ _ (by omega)]; first | exact Hb1.out | exact heap_keep Hb1.out Ba1.out) aib.out zib.out oib.out ?_
  refine hK.out _ _ (below_setRow hHeld (by omega) _) (fun hHeld => ?_)
  clear hK K
  (try simp only [List.setIfInBounds_toArray, List.set_cons_zero, List.set_cons_succ])
  refine wpAnyH_done (by kernel_rfl) ?_ _
  rotate_left
  exact AllReadyH.nil
  exact AllReadyH.nil
  exact AllReadyH.nil
  refine AllReadyH.cons (o := { dst := some 15, op := Op.alloc 40, type := 0, pos := "law.go:238", after := #[], guard := none }) rfl (fun K hK => ?_) ?_
  have hs5 := hHeld.size; go_simp; (first | refine newZ ?_ | refine newZd ?_); intro wb1 hb1 bb1; have Hb1 := hid hb1; have Bb1 := hid bb1; have lb1 := (Array.getElem?_eq_some_iff.1 hb1).1; clear hb1 bb1
  refine hK.out _ _ (by first | exact hHeld.trans (Bb1.out.mono hHeld.size) | exact Bb1.out) (fun hHeld => ?_)
  clear hK K
  (try simp only [List.setIfInBounds_toArray, List.set_cons_zero, List.set_cons_succ])
  refine wpAnyH_ready (rs := [6]) (by kernel_rfl) (by simp) ?_
  refine AllReadyH.cons (o := { dst := some 14, op := Op.alloc 40, type := 0, pos := "law.go:238", after := #[], guard := none }) rfl (fun K hK => ?_) ?_
  have hs4 := hHeld.size; go_simp; (first | refine newZ ?_ | refine newZd ?_); intro wa1 ha1 ba1; have Ha1 := hid ha1; have Ba1 := hid ba1; have la1 := (Array.getElem?_eq_some_iff.1 ha1).1; clear ha1 ba1
  refine hK.out _ _ (by first | exact hHeld.trans (Ba1.out.mono hHeld.size) | exact Ba1.out) (fun hHeld => ?_)
  clear hK K
  (try simp only [List.setIfInBounds_toArray, List.set_cons_zero, List.set_cons_succ])
  refine wpAnyH_ready (rs := [8]) (by kernel_rfl) (by simp) ?_
  refine AllReadyH.cons (o := { dst := none, op := Op.store 40 (Operand.tmp 14) (Operand.tmp 112), type := 0, pos := "law.go:238", after := #[{ on := 6, ground := Ground.data }, { on := 2, ground := Ground.data }, { on := 0, ground := Ground.phase }, { on := 1, ground := Ground.phase }, { on := 2, ground := Ground.phase }, { on := 3, ground := Ground.textOnly Departure.lateStores }, { on := 4, ground := Ground.textOnly Departure.lateStores }, { on := 5, ground := Ground.textOnly Departure.lateStores }, { on := 6, ground := Ground.phase }, { on := 7, ground := Ground.phase }], guard := none }) rfl (fun K hK => ?_) ?_
  rw [if_pos (by rfl)]; refine wp_store_row _ _ _ rfl _ x.inn.o.cells.toArray rfl rfl _ _ (by first | exact Ha1.out | exact heap_keep Ha1.out Bb1.out) aia.out zia.out oia.out ?_
  refine hK.out _ _ (below_setRow hHeld (by omega) _) (fun hHeld => ?_)
  clear hK K
  (try simp only [List.setIfInBounds_toArray, List.set_cons_zero, List.set_cons_succ])
  refine wpAnyH_ready (rs := [9]) (by kernel_rfl) (by simp) ?_
  refine AllReadyH.cons (o := { dst := none, op := Op.store 40 (Operand.tmp 15) (Operand.tmp 115), type := 0, pos := "law.go:238", after := #[{ on := 7, ground := Ground.data }, { on := 5, ground := Ground.data }, { on := 8, ground := Ground.chain }, { on := 0, ground := Ground.phase }, { on := 1, ground := Ground.phase }, { on := 2, ground := Ground.phase }, { on := 3, ground := Ground.phase }, { on := 4, ground := Ground.phase }, { on := 5, ground := Ground.phase }, { on := 6, ground := Ground.phase }, { on := 7, ground := Ground.phase }, { on := 8, ground := Ground.phase }], guard := none }) rfl (fun K hK => ?_) ?_
  rw [if_pos (by rfl)]; refine wp_store_row _ _ _ rfl _ x.out.o.cells.toArray rfl rfl _ _ (by rw [setRow_other _ _ _ _ (by omega)]; first | exact Hb1.out | exact heap_keep Hb1.out Ba1.out) aib.out zib.out oib.out ?_
  refine hK.out _ _ (below_setRow hHeld (by omega) _) (fun hHeld => ?_)
  clear hK K
  (try simp only [List.setIfInBounds_toArray, List.set_cons_zero, List.set_cons_succ])
  refine wpAnyH_done (by kernel_rfl) ?_ _
  rotate_left
  exact AllReadyH.nil
  exact AllReadyH.nil
  exact AllReadyH.nil
  exact AllReadyH.nil
  all_goals
    refine ⟨rfl, ⟨rfl, rfl, rfl, rfl, rfl, rfl, rfl, rfl⟩, rfl, hHeld, _, _, rfl, rfl, ?_, ?_, ?_, ?_, ?_⟩
    · rw [setRow_other _ _ _ _ (by omega)]; exact setRow_heap _ _ _ _ _ _ (by first | exact Ha1.out | exact heap_keep Ha1.out Bb1.out)
    · exact setRow_heap _ _ _ _ _ _ (by rw [setRow_other _ _ _ _ (by omega)]; first | exact Hb1.out | exact heap_keep Hb1.out Ba1.out)
    · omega
    · omega
    · omega
end Go.Proofs.YthccjefhlmngbaaDoor
