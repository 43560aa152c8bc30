/- Plain facts for EdgeKeeps. -/
import Derived.Test.YthccjefhlmngbaaDoorUsp
import Derived.Test.YthccjefhlmngbaaDoorStp21
import Derived.Test.YthccjefhlmngbaaDoorPrd21
namespace Go.Proofs.YthccjefhlmngbaaDoor
open Go.RowKit

/-- no quote is used for more than it says -/
def Fit (M : QM) : Prop := ∀ x q, M x = some q → q.used ≤ q.most
theorem Fit.none : Fit (fun _ => none) := fun _ _ h => by cases h
theorem Fit.upd {M : QM} (h : Fit M) {x : List Nat} {q : Quo} (hq : q.used ≤ q.most) : Fit (updM M x q) := by
  intro y z hz
  unfold updM at hz
  split at hz
  · cases hz
    exact hq
  · exact h y z hz
theorem Fit.res {M : QM} (h : Fit M) {x : List Nat} {r : Quo × Nat} (hq : r.2 = 0 → r.1.used ≤ r.1.most) : Fit (resM M x r) := by
  unfold resM
  split
  · rename_i h0
    exact h.upd (hq h0)
  · exact h
theorem Fit.undo {M : QM} (h : Fit M) (x : List Nat) (u : Nat) : Fit (resM M x (undoS (M x) u)) := by
  refine h.res fun h0 => ?_
  unfold undoS at h0 ⊢
  cases hm : M x with
  | none => rw [hm] at h0; cases h0
  | some q =>
    rw [hm] at h0
    dsimp only at h0 ⊢
    have := h x q hm
    by_cases hu : q.used < u
    · rw [if_pos hu] at h0; cases h0
    · rw [if_neg hu]
      show q.used - u ≤ q.most
      omega
theorem accS_fit {id no : List Nat} {buy : Bool} {most rc ru : Nat} {til : Int} (h0 : (accS (some (askQ no id buy most)) rc ru til).2 = 0) : (accS (some (askQ no id buy most)) rc ru til).1.used ≤ (accS (some (askQ no id buy most)) rc ru til).1.most := by
  unfold accS at h0 ⊢
  split at h0
  · cases h0
  · rename_i h1
    rw [if_neg h1]
    split at h0
    · cases h0
    · rename_i h2
      rw [if_neg h2]
      have e : openS (some (askQ no id buy most)) = (askQ no id buy most, 0) := rfl
      rw [e, if_pos rfl]
      exact Nat.zero_le _
theorem Fit.quM {M : QM} (h : Fit M) (i : Nat) (q : Qd) (n : Nat) : Fit (quM i q M n).1 := by
  unfold Go.Proofs.YthccjefhlmngbaaDoor.quM
  split
  · split
    · exact (h.upd (Nat.zero_le _)).res accS_fit
    · exact h
  · exact h
theorem Fit.quS : ∀ (qs : List Qd) (i n : Nat) (M : QM), Fit M → Fit (quS i qs M n).1
  | [], _, _, _, h => h
  | q :: r, i, n, _, h => Fit.quS r (i + 1) _ _ (h.quM i q n)
/-- both offers of a forward have one lock -/
def Lk (L : List Fw) : Prop := ∀ f ∈ L, f.inn.o.lock = f.out.o.lock
theorem Lk.nil : Lk [] := fun _ h => absurd h List.not_mem_nil
theorem Lk.snoc {L : List Fw} (h : Lk L) {f : Fw} (hf : f.inn.o.lock = f.out.o.lock) : Lk (L ++ [f]) := by
  intro x hx
  rcases List.mem_append.1 hx with hx | hx
  · exact h x hx
  · rw [List.mem_singleton.1 hx]; exact hf
theorem Lk.set {L : List Fw} (h : Lk L) (j : Nat) {f : Fw} (hf : f.inn.o.lock = f.out.o.lock) : Lk (L.set j f) := by
  intro x hx
  rcases List.mem_or_eq_of_mem_set hx with hx | rfl
  · exact h x hx
  · exact hf
theorem Lk.erase {L : List Fw} (h : Lk L) (j : Nat) : Lk (L.eraseIdx j) := fun x hx => h x (List.mem_of_mem_eraseIdx hx)
theorem Lk.get {L : List Fw} (h : Lk L) {j : Nat} {f : Fw} (hj : L[j]? = some f) : f.inn.o.lock = f.out.o.lock := h f (List.mem_of_getElem? hj)
/-- what is kept where a pair of offers was handed on -/
structure Kept (a b : Lg) (q q' : Quo) (h dl : Int) : Prop where
  st : q'.st = 1
  til : h ≤ q'.til
  out : h < b.o.til
  tim : dl ≤ a.o.til - b.o.til
  fit : q'.used ≤ q'.most
  lock : a.o.lock = b.o.lock
  ah : 0 ≤ a.o.til ∧ a.o.til ≤ 1073741824
  bh : 0 ≤ b.o.til ∧ b.o.til ≤ 1073741824
  pay : (q'.buy = true ∧ a.o.id = hz32 ∧ b.o.id = q'.id ∧ b.o.am * q'.rc ≤ a.o.am * q'.ru) ∨ (q'.buy = false ∧ b.o.id = hz32 ∧ a.o.id = q'.id ∧ b.o.am * q'.ru ≤ a.o.am * q'.rc)
theorem isH_iff {n : Int} (h : isH n = true) : 0 ≤ n ∧ n ≤ 1073741824 := by
  unfold isH at h
  simpa using h
theorem holdsS_in {q q' : Quo} {h : Int} {u : Nat} (e : holdsS (some q) h u = (q', 0)) : q.st = 1 ∧ h ≤ q.til ∧ q' = { q with used := q.used + u } ∧ q.used + u ≤ q.most := by
  unfold holdsS at e
  dsimp only at e
  split at e
  · rename_i h1
    split at e
    · cases e
    · rename_i h2
      split at e
      · split at e
        · cases e
        · rename_i h4
          cases e
          exact ⟨h1, by omega, rfl, by omega⟩
      · cases e
  · cases e
theorem useS_ok {q q' : Quo} {buy : Bool} {h : Int} {u : Nat} {kept : Nat → Nat → Bool} (e : useS (some q) buy h u kept = (q', 0)) : q.st = 1 ∧ h ≤ q.til ∧ q' = { q with used := q.used + u } ∧ q.used + u ≤ q.most ∧ q.buy = buy ∧ kept q.rc q.ru = true := by
  unfold useS at e
  split at e
  · cases e
  · rcases hr : holdsS (some q) h u with ⟨r, k⟩
    rw [hr] at e
    dsimp only at e
    split at e
    · rename_i hk
      cases e
      exact absurd rfl hk
    · rename_i hk
      have hk0 : k = 0 := by omega
      subst hk0
      obtain ⟨h1, h2, h3, h4⟩ := holdsS_in hr
      split at e
      · cases e
      · rename_i h5
        cases e
        subst h3
        exact ⟨h1, h2, rfl, h4, by simpa using (not_or.1 h5).1, by simpa using (not_or.1 h5).2⟩
theorem payB_ok {n c d u : Nat} (h : payB n c d u = true) : d * u ≤ n * c := by
  unfold payB at h
  split at h
  · cases h
  · simpa using h
theorem handC_ok {a b : Lg} {no : List Nat} {h dl : Int} {L : List Fw} {M : QM} (hc : handC a b no h dl L M = 0) : ∃ q q', M no = some q ∧ handU M a b no h = (q', 0) ∧ Kept a b q q' h dl := by
  unfold handC at hc
  split at hc
  · cases hc
  rename_i ha
  split at hc
  · cases hc
  split at hc
  · cases hc
  split at hc
  · cases hc
  rename_i ht
  obtain ⟨-, hl, hid, hi1, hi2⟩ := argB_false (by simpa using ha)
  have ht' : timB a b h dl = false := by simpa using ht
  unfold timB at ht'
  rw [Bool.or_eq_false_iff, decide_eq_false_iff_not, decide_eq_false_iff_not] at ht'
  cases hm : M no with
  | none => rw [hm] at hc; cases hc
  | some q =>
    rw [hm] at hc
    unfold handT at hc
    dsimp only at hc
    split at hc
    · cases hc
    rename_i hq
    have hq' : (pickA a b).id = q.id := by simpa using hq
    rcases hr : handU M a b no h with ⟨q', k⟩
    rw [hr] at hc
    dsimp only at hc
    subst hc
    refine ⟨q, q', rfl, rfl, ?_⟩
    unfold handU at hr
    rw [hm] at hr
    by_cases hz : a.o.id = hz32
    · rw [if_pos hz] at hr
      obtain ⟨h1, h2, rfl, h4, h5, h6⟩ := useS_ok hr
      have pA : pickA a b = b.o := if_pos hz
      have pB : pickB a b = a.o := if_pos hz
      have h7 := payB_ok h6
      rw [pA, pB] at h7
      rw [pA] at hq'
      exact ⟨h1, h2, by omega, by omega, h4, hl, isH_iff hi1, isH_iff hi2, .inl ⟨h5, hz, hq', h7⟩⟩
    · rw [if_neg hz] at hr
      obtain ⟨h1, h2, rfl, h4, h5, h6⟩ := useS_ok hr
      have pA : pickA a b = a.o := if_neg hz
      have pB : pickB a b = b.o := if_neg hz
      have h7 := payB_ok h6
      rw [pA, pB] at h7
      rw [pA] at hq'
      have hb : b.o.id = hz32 := by
        by_cases hb : b.o.id = hz32
        · exact hb
        · exact absurd (hid.2 hb) hz
      exact ⟨h1, h2, by omega, by omega, h4, hl, isH_iff hi1, isH_iff hi2, .inr ⟨h5, hb, hq', h7⟩⟩
end Go.Proofs.YthccjefhlmngbaaDoor

/- EdgeKeeps: what stands between its pieces; region 20. Printed by wip/kep.py. -/
namespace Go.Proofs.YthccjefhlmngbaaDoor
open Go.RowKit

set_option maxRecDepth 1000000 in
theorem frameK {T : Array Value} (h : T.size = 235) : T = List.toArray (tm T 0 :: tm T 1 :: tm T 2 :: tm T 3 :: tm T 4 :: tm T 5 :: tm T 6 :: tm T 7 :: tm T 8 :: tm T 9 :: tm T 10 :: tm T 11 :: tm T 12 :: tm T 13 :: tm T 14 :: tm T 15 :: tm T 16 :: tm T 17 :: tm T 18 :: tm T 19 :: tm T 20 :: tm T 21 :: tm T 22 :: tm T 23 :: tm T 24 :: tm T 25 :: tm T 26 :: tm T 27 :: tm T 28 :: tm T 29 :: tm T 30 :: tm T 31 :: tm T 32 :: tm T 33 :: tm T 34 :: tm T 35 :: tm T 36 :: tm T 37 :: tm T 38 :: tm T 39 :: tm T 40 :: tm T 41 :: tm T 42 :: tm T 43 :: tm T 44 :: tm T 45 :: tm T 46 :: tm T 47 :: tm T 48 :: tm T 49 :: tm T 50 :: tm T 51 :: tm T 52 :: tm T 53 :: tm T 54 :: tm T 55 :: tm T 56 :: tm T 57 :: tm T 58 :: tm T 59 :: tm T 60 :: tm T 61 :: tm T 62 :: tm T 63 :: tm T 64 :: tm T 65 :: tm T 66 :: tm T 67 :: tm T 68 :: tm T 69 :: tm T 70 :: tm T 71 :: tm T 72 :: tm T 73 :: tm T 74 :: tm T 75 :: tm T 76 :: tm T 77 :: tm T 78 :: tm T 79 :: tm T 80 :: tm T 81 :: tm T 82 :: tm T 83 :: tm T 84 :: tm T 85 :: tm T 86 :: tm T 87 :: tm T 88 :: tm T 89 :: tm T 90 :: tm T 91 :: tm T 92 :: tm T 93 :: tm T 94 :: tm T 95 :: tm T 96 :: tm T 97 :: tm T 98 :: tm T 99 :: tm T 100 :: tm T 101 :: tm T 102 :: tm T 103 :: tm T 104 :: tm T 105 :: tm T 106 :: tm T 107 :: tm T 108 :: tm T 109 :: tm T 110 :: tm T 111 :: tm T 112 :: tm T 113 :: tm T 114 :: tm T 115 :: tm T 116 :: tm T 117 :: tm T 118 :: tm T 119 :: tm T 120 :: tm T 121 :: tm T 122 :: tm T 123 :: tm T 124 :: tm T 125 :: tm T 126 :: tm T 127 :: tm T 128 :: tm T 129 :: tm T 130 :: tm T 131 :: tm T 132 :: tm T 133 :: tm T 134 :: tm T 135 :: tm T 136 :: tm T 137 :: tm T 138 :: tm T 139 :: tm T 140 :: tm T 141 :: tm T 142 :: tm T 143 :: tm T 144 :: tm T 145 :: tm T 146 :: tm T 147 :: tm T 148 :: tm T 149 :: tm T 150 :: tm T 151 :: tm T 152 :: tm T 153 :: tm T 154 :: tm T 155 :: tm T 156 :: tm T 157 :: tm T 158 :: tm T 159 :: tm T 160 :: tm T 161 :: tm T 162 :: tm T 163 :: tm T 164 :: tm T 165 :: tm T 166 :: tm T 167 :: tm T 168 :: tm T 169 :: tm T 170 :: tm T 171 :: tm T 172 :: tm T 173 :: tm T 174 :: tm T 175 :: tm T 176 :: tm T 177 :: tm T 178 :: tm T 179 :: tm T 180 :: tm T 181 :: tm T 182 :: tm T 183 :: tm T 184 :: tm T 185 :: tm T 186 :: tm T 187 :: tm T 188 :: tm T 189 :: tm T 190 :: tm T 191 :: tm T 192 :: tm T 193 :: tm T 194 :: tm T 195 :: tm T 196 :: tm T 197 :: tm T 198 :: tm T 199 :: tm T 200 :: tm T 201 :: tm T 202 :: tm T 203 :: tm T 204 :: tm T 205 :: tm T 206 :: tm T 207 :: tm T 208 :: tm T 209 :: tm T 210 :: tm T 211 :: tm T 212 :: tm T 213 :: tm T 214 :: tm T 215 :: tm T 216 :: tm T 217 :: tm T 218 :: tm T 219 :: tm T 220 :: tm T 221 :: tm T 222 :: tm T 223 :: tm T 224 :: tm T 225 :: tm T 226 :: tm T 227 :: tm T 228 :: tm T 229 :: tm T 230 :: tm T 231 :: tm T 232 :: tm T 233 :: tm T 234 :: []) := (tm_all h).trans (by kernel_rfl)
noncomputable def kepC (n : Nat) : Code := (Tryd.f6.body.bind (findR n)).getD .skip
/-- the slots that last -/
structure KSl (dl : Int) (qv sv : Value) (tb eb k R : Nat) (T : Array Value) : Prop where
  size : T.size = 235
  t0 : tm T 0 = .int .i64 dl
  t1 : tm T 1 = qv
  t2 : tm T 2 = sv
  t7 : tm T 7 = .pointer (some ⟨tb, 0, none⟩)
  t8 : tm T 8 = .pointer (some ⟨eb, 0, none⟩)
  t10 : tm T 10 = .int .i64 (k : Int)
  t11 : tm T 11 = .pointer (some ⟨R, 0, none⟩)
structure KSo (dl : Int) (qv sv : Value) (tb eb k : Nat) (T : Array Value) : Prop where
  size : T.size = 235
  t0 : tm T 0 = .int .i64 dl
  t1 : tm T 1 = qv
  t2 : tm T 2 = sv
  t7 : tm T 7 = .pointer (some ⟨tb, 0, none⟩)
  t8 : tm T 8 = .pointer (some ⟨eb, 0, none⟩)
  t10 : tm T 10 = .int .i64 (k : Int)
def Kep20 (dl : Int) (qv sv : Value) (tb eb k R : Nat) (p12 : Value) (x : Ed) (w : World) : Exit → Act → World → Prop
  | .normal, A, w' => A.defers = [] ∧ KSl dl qv sv tb eb k R A.tmps ∧ tm A.tmps 12 = p12 ∧ Below w.heap.size w w' ∧ ∃ X Y, tm A.tmps 14 = .pointer (some ⟨X, 0, none⟩) ∧ tm A.tmps 15 = .pointer (some ⟨Y, 0, none⟩) ∧
      w'.heap[X]? = some (.cells x.inn.o.cells.toArray 40 (0, 0)) ∧ w'.heap[Y]? = some (.cells x.out.o.cells.toArray 40 (0, 0)) ∧ w.heap.size ≤ X ∧ w.heap.size ≤ Y ∧ X ≠ Y
  | _, _, _ => False
set_option maxRecDepth 1000000 in
set_option maxHeartbeats 16000000 in
theorem kep20 (dl : Int) (qv sv : Value) (tb eb k R : Nat) (T : Array Value) (w : World) (p12 : Value) (x : Ed) (s : KSl dl qv sv tb eb k R T) (hx : x.ok) (hr : w.heap[R]? = some (.cells x.cells.toArray 60 (0, 0))) (e12 : tm T 12 = p12) : (kepC 20).wp Tryd.prog (Kep20 dl qv sv tb eb k R p12 x w) ⟨T, []⟩ w := by
  have e0 := s.t0
  have e1 := s.t1
  have e2 := s.t2
  have e7 := s.t7
  have e8 := s.t8
  have e10 := s.t10
  have e11 := s.t11
  rw [frameK s.size, e0, e1, e2, e7, e8, e10, e11, e12]
  have ra : w.rangeAt R 2 x.inn.o.cells := by have := (x.hasIn.trans x.inn.hasO).rng (row_range hr); exact this
  have rb : w.rangeAt R 71 x.out.o.cells := by have := ((Ed.hasOut hx).trans x.out.hasO).rng (row_range hr); exact this
  have un := Tryd.underlying40
  have hia := hid (infoOl hx.i.o)
  have hib := hid (infoOl hx.o.o)
  have aia := hid (infoOa hx.i.o)
  have aib := hid (infoOa hx.o.o)
  have zia := hid (zO_as hx.i.o)
  have zib := hid (zO_as hx.o.o)
  have oia := hid (all_oneCell_toArray (Ofr.one x.inn.o))
  have oib := hid (all_oneCell_toArray (Ofr.one x.out.o))
  have ZO := zeroO
  have hneO := zO_ne
  clear hx hr e12
  clear s e0 e1 e2 e7 e8 e10 e11
  conv => arg 2; whnf
  refine wp_region_held_drew (S := fun w' => Below w.heap.size w w') (by kernel_rfl) ((Below.refl _ _).drew) (fun hHeld => ?_)
  try simp only [List.size_toArray, List.length_cons, List.length_nil, Nat.reduceAdd, Array.replicate_succ, Array.replicate_zero, List.push_toArray, List.nil_append, List.cons_append]
  refine wpAnyH_take (i := 0) (oi := { dst := some 110, op := Op.fieldAddr 60 (Operand.tmp 11) 1, type := 0, pos := "law.go:238", after := #[], guard := none }) (v := ?v1001) rfl (by kernel_rfl) (by kernel_rfl) (by kernel_rfl) (fun _ _ _ h => h) (Or.inl ⟨by rfl, ?hy1001⟩) hHeld ?_
  case hy1001 => (intro w hSw; (try dsimp only at hSw); go_simp; (try with_reducible rfl))
  (try simp only [Act.put, List.setIfInBounds_toArray, List.set_cons_zero, List.set_cons_succ])
  refine wpAnyH_take (i := 1) (oi := { dst := some 111, op := Op.fieldAddr 42 (Operand.tmp 110) 1, type := 0, pos := "law.go:238", after := #[{ on := 0, ground := Ground.data }], guard := none }) (v := ?v1002) rfl (by kernel_rfl) (by kernel_rfl) (by kernel_rfl) (fun _ _ _ h => h) (Or.inl ⟨by rfl, ?hy1002⟩) hHeld ?_
  case hy1002 => (intro w hSw; (try dsimp only at hSw); go_simp; (try with_reducible rfl))
  (try simp only [Act.put, List.setIfInBounds_toArray, List.set_cons_zero, List.set_cons_succ])
  refine' wpAnyH_take (i := 2) (oi := { dst := some 112, op := Op.load 40 (Operand.tmp 111), type := 40, pos := "law.go:238", after := #[{ on := 1, ground := Ground.data }], guard := none }) (v := _) rfl (by kernel_rfl) (by kernel_rfl) (by kernel_rfl) (fun _ _ _ h => h) (yieldsIf_load_mid (by rfl) _ _ rfl R 2 rfl x.inn.o.cells _ (fun _ h => range_keep h ra) un rfl hia.out) hHeld ?_
  (try simp only [Act.put, List.setIfInBounds_toArray, List.set_cons_zero, List.set_cons_succ])
  refine wpAnyH_take (i := 3) (oi := { dst := some 113, op := Op.fieldAddr 60 (Operand.tmp 11) 2, type := 0, pos := "law.go:238", after := #[{ on := 8, ground := Ground.gcOnly Departure.lateStores }], guard := none }) (v := ?v1003) rfl (by kernel_rfl) (by kernel_rfl) (by kernel_rfl) (fun _ _ _ h => h) (Or.inl ⟨by rfl, ?hy1003⟩) hHeld ?_
  case hy1003 => (intro w hSw; (try dsimp only at hSw); go_simp; (try with_reducible rfl))
  (try simp only [Act.put, List.setIfInBounds_toArray, List.set_cons_zero, List.set_cons_succ])
  refine wpAnyH_take (i := 4) (oi := { dst := some 114, op := Op.fieldAddr 42 (Operand.tmp 113) 1, type := 0, pos := "law.go:238", after := #[{ on := 3, ground := Ground.data }, { on := 8, ground := Ground.gcOnly Departure.lateStores }], guard := none }) (v := ?v1004) rfl (by kernel_rfl) (by kernel_rfl) (by kernel_rfl) (fun _ _ _ h => h) (Or.inl ⟨by rfl, ?hy1004⟩) hHeld ?_
  case hy1004 => (intro w hSw; (try dsimp only at hSw); go_simp; (try with_reducible rfl))
  (try simp only [Act.put, List.setIfInBounds_toArray, List.set_cons_zero, List.set_cons_succ])
  refine' wpAnyH_take (i := 5) (oi := { dst := some 115, op := Op.load 40 (Operand.tmp 114), type := 40, pos := "law.go:238", after := #[{ on := 4, ground := Ground.data }, { on := 8, ground := Ground.gcOnly Departure.lateStores }], guard := none }) (v := _) rfl (by kernel_rfl) (by kernel_rfl) (by kernel_rfl) (fun _ _ _ h => h) (yieldsIf_load_mid (by rfl) _ _ rfl R 71 rfl x.out.o.cells _ (fun _ h => range_keep h rb) un rfl hib.out) hHeld ?_
  (try simp only [Act.put, List.setIfInBounds_toArray, List.set_cons_zero, List.set_cons_succ])
  refine wpAnyH_ready (rs := [6, 7]) (by kernel_rfl) (by simp) ?_
  refine AllReadyH.cons (o := { dst := some 14, op := Op.alloc 40, type := 0, pos := "law.go:238", after := #[], guard := none }) rfl (fun K hK => ?_) ?_
  have hs4 := hHeld.size; go_simp; (first | refine newZ ?_ | refine newZd ?_); intro wa1 ha1 ba1; have Ha1 := hid ha1; have Ba1 := hid ba1; have la1 := (Array.getElem?_eq_some_iff.1 ha1).1; clear ha1 ba1
  refine hK.out _ _ (by first | exact hHeld.trans (Ba1.out.mono hHeld.size) | exact Ba1.out) (fun hHeld => ?_)
  clear hK K
  (try simp only [List.setIfInBounds_toArray, List.set_cons_zero, List.set_cons_succ])
  refine wpAnyH_ready (rs := [7]) (by kernel_rfl) (by simp) ?_
  refine AllReadyH.cons (o := { dst := some 15, op := Op.alloc 40, type := 0, pos := "law.go:238", after := #[], guard := none }) rfl (fun K hK => ?_) ?_
  have hs5 := hHeld.size; go_simp; (first | refine newZ ?_ | refine newZd ?_); intro wb1 hb1 bb1; have Hb1 := hid hb1; have Bb1 := hid bb1; have lb1 := (Array.getElem?_eq_some_iff.1 hb1).1; clear hb1 bb1
  refine hK.out _ _ (by first | exact hHeld.trans (Bb1.out.mono hHeld.size) | exact Bb1.out) (fun hHeld => ?_)
  clear hK K
  (try simp only [List.setIfInBounds_toArray, List.set_cons_zero, List.set_cons_succ])
  refine wpAnyH_ready (rs := [8]) (by kernel_rfl) (by simp) ?_
  refine AllReadyH.cons (o := { dst := none, op := Op.store 40 (Operand.tmp 14) (Operand.tmp 112), type := 0, pos := "law.go:238", after := #[{ on := 6, ground := Ground.data }, { on := 2, ground := Ground.data }, { on := 0, ground := Ground.phase }, { on := 1, ground := Ground.phase }, { on := 2, ground := Ground.phase }, { on := 3, ground := Ground.textOnly Departure.lateStores }, { on := 4, ground := Ground.textOnly Departure.lateStores }, { on := 5, ground := Ground.textOnly Departure.lateStores }, { on := 6, ground := Ground.phase }, { on := 7, ground := Ground.phase }], guard := none }) rfl (fun K hK => ?_) ?_
  rw [if_pos (by rfl)]; refine wp_store_row _ _ _ rfl _ x.inn.o.cells.toArray rfl rfl _ _ (by first | exact Ha1.out | exact heap_keep Ha1.out Bb1.out) aia.out zia.out oia.out ?_
  refine hK.out _ _ (below_setRow hHeld (by omega) _) (fun hHeld => ?_)
  clear hK K
  (try simp only [List.setIfInBounds_toArray, List.set_cons_zero, List.set_cons_succ])
  refine wpAnyH_ready (rs := [9]) (by kernel_rfl) (by simp) ?_
  refine AllReadyH.cons (o := { dst := none, op := Op.store 40 (Operand.tmp 15) (Operand.tmp 115), type := 0, pos := "law.go:238", after := #[{ on := 7, ground := Ground.data }, { on := 5, ground := Ground.data }, { on := 8, ground := Ground.chain }, { on := 0, ground := Ground.phase }, { on := 1, ground := Ground.phase }, { on := 2, ground := Ground.phase }, { on := 3, ground := Ground.phase }, { on := 4, ground := Ground.phase }, { on := 5, ground := Ground.phase }, { on := 6, ground := Ground.phase }, { on := 7, ground := Ground.phase }, { on := 8, ground := Ground.phase }], guard := none }) rfl (fun K hK => ?_) ?_
  rw [if_pos (by rfl)]; refine wp_store_row _ _ _ rfl _ x.out.o.cells.toArray rfl rfl _ _ (by rw [setRow_other _ _ _ _ (by omega)]; first | exact Hb1.out | exact heap_keep Hb1.out Ba1.out) aib.out zib.out oib.out ?_
  refine hK.out _ _ (below_setRow hHeld (by omega) _) (fun hHeld => ?_)
  clear hK K
  (try simp only [List.setIfInBounds_toArray, List.set_cons_zero, List.set_cons_succ])
  refine wpAnyH_done (by kernel_rfl) ?_ _
  rotate_left
  exact AllReadyH.nil
  exact AllReadyH.nil
  exact AllReadyH.nil
  refine AllReadyH.cons (o := { dst := some 15, op := Op.alloc 40, type := 0, pos := "law.go:238", after := #[], guard := none }) rfl (fun K hK => ?_) ?_
  have hs5 := hHeld.size; go_simp; (first | refine newZ ?_ | refine newZd ?_); intro wb1 hb1 bb1; have Hb1 := hid hb1; have Bb1 := hid bb1; have lb1 := (Array.getElem?_eq_some_iff.1 hb1).1; clear hb1 bb1
  refine hK.out _ _ (by first | exact hHeld.trans (Bb1.out.mono hHeld.size) | exact Bb1.out) (fun hHeld => ?_)
  clear hK K
  (try simp only [List.setIfInBounds_toArray, List.set_cons_zero, List.set_cons_succ])
  refine wpAnyH_ready (rs := [6]) (by kernel_rfl) (by simp) ?_
  refine AllReadyH.cons (o := { dst := some 14, op := Op.alloc 40, type := 0, pos := "law.go:238", after := #[], guard := none }) rfl (fun K hK => ?_) ?_
  have hs4 := hHeld.size; go_simp; (first | refine newZ ?_ | refine newZd ?_); intro wa1 ha1 ba1; have Ha1 := hid ha1; have Ba1 := hid ba1; have la1 := (Array.getElem?_eq_some_iff.1 ha1).1; clear ha1 ba1
  refine hK.out _ _ (by first | exact hHeld.trans (Ba1.out.mono hHeld.size) | exact Ba1.out) (fun hHeld => ?_)
  clear hK K
  (try simp only [List.setIfInBounds_toArray, List.set_cons_zero, List.set_cons_succ])
  refine wpAnyH_ready (rs := [8]) (by kernel_rfl) (by simp) ?_
  refine AllReadyH.cons (o := { dst := none, op := Op.store 40 (Operand.tmp 14) (Operand.tmp 112), type := 0, pos := "law.go:238", after := #[{ on := 6, ground := Ground.data }, { on := 2, ground := Ground.data }, { on := 0, ground := Ground.phase }, { on := 1, ground := Ground.phase }, { on := 2, ground := Ground.phase }, { on := 3, ground := Ground.textOnly Departure.lateStores }, { on := 4, ground := Ground.textOnly Departure.lateStores }, { on := 5, ground := Ground.textOnly Departure.lateStores }, { on := 6, ground := Ground.phase }, { on := 7, ground := Ground.phase }], guard := none }) rfl (fun K hK => ?_) ?_
  rw [if_pos (by rfl)]; refine wp_store_row _ _ _ rfl _ x.inn.o.cells.toArray rfl rfl _ _ (by first | exact Ha1.out | exact heap_keep Ha1.out Bb1.out) aia.out zia.out oia.out ?_
  refine hK.out _ _ (below_setRow hHeld (by omega) _) (fun hHeld => ?_)
  clear hK K
  (try simp only [List.setIfInBounds_toArray, List.set_cons_zero, List.set_cons_succ])
  refine wpAnyH_ready (rs := [9]) (by kernel_rfl) (by simp) ?_
  refine AllReadyH.cons (o := { dst := none, op := Op.store 40 (Operand.tmp 15) (Operand.tmp 115), type := 0, pos := "law.go:238", after := #[{ on := 7, ground := Ground.data }, { on := 5, ground := Ground.data }, { on := 8, ground := Ground.chain }, { on := 0, ground := Ground.phase }, { on := 1, ground := Ground.phase }, { on := 2, ground := Ground.phase }, { on := 3, ground := Ground.phase }, { on := 4, ground := Ground.phase }, { on := 5, ground := Ground.phase }, { on := 6, ground := Ground.phase }, { on := 7, ground := Ground.phase }, { on := 8, ground := Ground.phase }], guard := none }) rfl (fun K hK => ?_) ?_
  rw [if_pos (by rfl)]; refine wp_store_row _ _ _ rfl _ x.out.o.cells.toArray rfl rfl _ _ (by rw [setRow_other _ _ _ _ (by omega)]; first | exact Hb1.out | exact heap_keep Hb1.out Ba1.out) aib.out zib.out oib.out ?_
  refine hK.out _ _ (below_setRow hHeld (by omega) _) (fun hHeld => ?_)
  clear hK K
  (try simp only [List.setIfInBounds_toArray, List.set_cons_zero, List.set_cons_succ])
  refine wpAnyH_done (by kernel_rfl) ?_ _
  rotate_left
  exact AllReadyH.nil
  exact AllReadyH.nil
  exact AllReadyH.nil
  exact AllReadyH.nil
  all_goals
    refine ⟨rfl, ⟨rfl, rfl, rfl, rfl, rfl, rfl, rfl, rfl⟩, rfl, hHeld, _, _, rfl, rfl, ?_, ?_, ?_, ?_, ?_⟩
    · rw [setRow_other _ _ _ _ (by omega)]; exact setRow_heap _ _ _ _ _ _ (by first | exact Ha1.out | exact heap_keep Ha1.out Bb1.out)
    · exact setRow_heap _ _ _ _ _ _ (by rw [setRow_other _ _ _ _ (by omega)]; first | exact Hb1.out | exact heap_keep Hb1.out Ba1.out)
    · omega
    · omega
    · omega
end Go.Proofs.YthccjefhlmngbaaDoor

/- EdgeKeeps: regions 22, 24, 28. Printed by wip/kep.py. -/
namespace Go.Proofs.YthccjefhlmngbaaDoor
open Go.RowKit

theorem run_bld0 {P : Program} {w : World} {o : Oper} {ev : Operand → Value} {t : TypeId} {cells : Array Value} (ho : o.op = .build t #[]) (hb : P.built t [] = some cells) : (execOp ev o).run P w = .ok (.value (.agg cells)) w :=
  run_buildN ho (by simpa using hb)
theorem bhz : Tryd.prog.built 27 [] = some (nums .u8 hz32).toArray := by kernel_rfl
def Kep22 (dl : Int) (qv sv : Value) (tb eb k R : Nat) (w : World) : Exit → Act → World → Prop
  | .normal, A, w' => A.defers = [] ∧ KSl dl qv sv tb eb k R A.tmps ∧ tm A.tmps 144 = .bool false ∧ Below w.heap.size w w'
  | _, _, _ => False
set_option maxRecDepth 1000000 in
set_option maxHeartbeats 16000000 in
theorem kep22 (dl : Int) (qv sv : Value) (tb eb k R : Nat) (T : Array Value) (w : World) (KA KB KQ : Nat) (a b : Ofr) (q : Quo) (s : KSl dl qv sv tb eb k R T) (e12 : tm T 12 = .pointer (some ⟨KQ, 0, none⟩)) (e14 : tm T 14 = .pointer (some ⟨KA, 0, none⟩)) (e15 : tm T 15 = .pointer (some ⟨KB, 0, none⟩)) (ha : a.ok) (hb : b.ok) (hq : q.ok)
    (h14 : w.heap[KA]? = some (.cells a.cells.toArray 40 (0, 0))) (h15 : w.heap[KB]? = some (.cells b.cells.toArray 40 (0, 0))) (h12 : w.heap[KQ]? = some (.cells q.cells.toArray 48 (0, 0)))
    (hz : a.id = hz32) (hi : b.id = q.id) (hp : b.am * q.rc ≤ a.am * q.ru) : (kepC 22).wp Tryd.prog (Kep22 dl qv sv tb eb k R w) ⟨T, []⟩ w := by
  have e0 := s.t0
  have e1 := s.t1
  have e2 := s.t2
  have e7 := s.t7
  have e8 := s.t8
  have e10 := s.t10
  have e11 := s.t11
  rw [frameK s.size, e0, e1, e2, e7, e8, e10, e11, e12, e14, e15]
  have rx : w.rangeAt KA 2 (nums .u8 hz32) := by have := a.hasId.rng (row_range h14); rw [hz] at this; simpa using this
  have ry : w.rangeAt KB 2 (nums .u8 q.id) := by have := b.hasId.rng (row_range h15); rw [hi] at this; simpa using this
  have rq : w.rangeAt KQ 32 (nums .u8 q.id) := by have := gen_range (row_range h12) 32 32; rwa [Quo.id_at hq] at this
  have am1 : w.cell? ⟨KB, 34, none⟩ = some (.int .u64 (b.am : Int)) := by have := (Ofr.hasAm hb).one (row_range h15); simpa using this
  have am2 : w.cell? ⟨KA, 34, none⟩ = some (.int .u64 (a.am : Int)) := by have := (Ofr.hasAm ha).one (row_range h14); simpa using this
  have ra1 : w.cell? ⟨KQ, 67, none⟩ = some (.int .u64 (q.rc : Int)) := gen_cell (row_range h12) (Quo.get hq 3)
  have ra2 : w.cell? ⟨KQ, 68, none⟩ = some (.int .u64 (q.ru : Int)) := gen_cell (row_range h12) (Quo.get hq 4)
  have un := Tryd.underlying27
  have hiz := hid (show (Tryd.prog.info? 27).map (·.size) = some (nums .u8 hz32).length by kernel_rfl)
  have hiq := hid (show (Tryd.prog.info? 27).map (·.size) = some (nums .u8 q.id).length by rw [nums_length, hq.il]; exact infoH)
  have n1 := neq_hv (xs := hz32) (ys := hz32) hz32_ok.1 hz32_ok.1 hz32_ok.2 hz32_ok.2
  have g1 := guard_hv hz32 hz32
  have n2 := neq_hv (xs := q.id) (ys := q.id) hq.il hq.il hq.ib hq.ib
  have g2 := guard_hv q.id q.id
  rw [decide_eq_true rfl] at n1 n2
  unfold hv at n1 g1 n2 g2
  simp only [Bool.not_true] at n1 n2
  have bz := bhz
  have P1 := fun wx => hid (product21 b.am q.rc hb.ab hq.cb wx)
  have P2 := fun wx => hid (product21 a.am q.ru ha.ab hq.ub wx)
  have tc : decide (cmpI (b.am * q.rc) (a.am * q.ru) > 0) = false := by rw [cmp_pos21]; exact decide_eq_false (by omega)
  have CW := fun (a1 a2 : Option Addr) (c1 c2 : Nat) (y1 y2 : List Nat) (u v wx : World) s1 d1 b1 s2 d2 b2 => hid (cmp_two21 (a := a1) (a' := a2) (c := c1) (c' := c2) (xs := y1) (ys := y2) (u := u) (u' := v) (v := wx) (Nat.mul_lt_mul'' hb.ab hq.cb) (Nat.mul_lt_mul'' ha.ab hq.ub) s1 d1 b1 s2 d2 b2)
  clear ha hb hq h12 h14 h15 hz hi hp e12 e14 e15
  clear s e0 e1 e2 e7 e8 e10 e11
  conv => arg 2; whnf
  refine wp_region_held_drew (S := fun w' => Below w.heap.size w w') (by kernel_rfl) ((Below.refl _ _).drew) (fun hHeld => ?_)
  try simp only [List.size_toArray, List.length_cons, List.length_nil, Nat.reduceAdd, Array.replicate_succ, Array.replicate_zero, List.push_toArray, List.nil_append, List.cons_append]
  refine wpAnyH_take (i := 0) (oi := { dst := some 118, op := Op.fieldAddr 40 (Operand.tmp 14) 2, type := 0, pos := "law.go:241", after := #[], guard := none }) (v := ?v2001) rfl (by kernel_rfl) (by kernel_rfl) (by kernel_rfl) (fun _ _ _ h => h) (Or.inl ⟨by rfl, ?hy2001⟩) hHeld ?_
  case hy2001 => (intro w hSw; (try dsimp only at hSw); go_simp; (try with_reducible rfl))
  (try simp only [Act.put, List.setIfInBounds_toArray, List.set_cons_zero, List.set_cons_succ])
  refine' wpAnyH_take (i := 1) (oi := { dst := some 119, op := Op.load 27 (Operand.tmp 118), type := 27, pos := "law.go:241", after := #[{ on := 0, ground := Ground.data }], guard := none }) (v := _) rfl (by kernel_rfl) (by kernel_rfl) (by kernel_rfl) (fun _ _ _ h => h) (yieldsIf_load_mid (by rfl) _ _ rfl KA 2 rfl (nums .u8 hz32) _ (fun _ h => range_keep h rx) un rfl hiz.out) hHeld ?_
  (try simp only [Act.put, List.setIfInBounds_toArray, List.set_cons_zero, List.set_cons_succ])
  refine wpAnyH_take (i := 2) (oi := { dst := some 120, op := Op.build 27 #[], type := 27, pos := "law.go:241", after := #[], guard := none }) (v := (.agg (nums .u8 hz32).toArray)) rfl (by kernel_rfl) (by kernel_rfl) (by kernel_rfl) (fun _ _ _ h => h) (Or.inl ⟨by rfl, fun w _ => run_bld0 rfl bz⟩) hHeld ?_
  (try simp only [Act.put, List.setIfInBounds_toArray, List.set_cons_zero, List.set_cons_succ])
  refine wpAnyH_take (i := 3) (oi := { dst := some 121, op := Op.binOp BinOp.neq 27 (Operand.tmp 119) (Operand.tmp 120) 27, type := 4, pos := "law.go:241", after := #[{ on := 1, ground := Ground.data }, { on := 2, ground := Ground.data }], guard := none }) (v := ?v2002) rfl (by kernel_rfl) (by kernel_rfl) (by kernel_rfl) (fun _ _ _ h => h) (Or.inl ⟨by rfl, ?hy2002⟩) hHeld ?_
  case hy2002 => (intro w hSw; (try dsimp only at hSw); go_simp; (try with_reducible rfl))
  (try simp only [Act.put, List.setIfInBounds_toArray, List.set_cons_zero, List.set_cons_succ])
  refine wpAnyH_take (i := 4) (oi := { dst := some 122, op := Op.move (Operand.tmp 121), type := 4, pos := "law.go:241", after := #[{ on := 3, ground := Ground.data }], guard := none }) (v := ?v2003) rfl (by kernel_rfl) (by kernel_rfl) (by kernel_rfl) (fun _ _ _ h => h) (Or.inl ⟨by rfl, ?hy2003⟩) hHeld ?_
  case hy2003 => (intro w hSw; (try dsimp only at hSw); go_simp; (try with_reducible rfl))
  (try simp only [Act.put, List.setIfInBounds_toArray, List.set_cons_zero, List.set_cons_succ])
  refine wpAnyH_take (i := 5) (oi := { dst := some 123, op := Op.fieldAddr 40 (Operand.tmp 15) 2, type := 0, pos := "law.go:241", after := #[{ on := 4, ground := Ground.guard }], guard := some (4, false) }) (v := ?v2004) rfl (by kernel_rfl) (by kernel_rfl) (by kernel_rfl) (fun _ _ _ h => h) (Or.inl ⟨by rfl, ?hy2004⟩) hHeld ?_
  case hy2004 => (intro w hSw; (try dsimp only at hSw); go_simp; (try with_reducible rfl))
  (try simp only [Act.put, List.setIfInBounds_toArray, List.set_cons_zero, List.set_cons_succ])
  refine' wpAnyH_take (i := 6) (oi := { dst := some 124, op := Op.load 27 (Operand.tmp 123), type := 27, pos := "law.go:241", after := #[{ on := 5, ground := Ground.data }, { on := 4, ground := Ground.guard }], guard := some (4, false) }) (v := _) rfl (by kernel_rfl) (by kernel_rfl) (by kernel_rfl) (fun _ _ _ h => h) (yieldsIf_load_mid (by rfl) _ _ rfl KB 2 rfl (nums .u8 q.id) _ (fun _ h => range_keep h ry) un rfl hiq.out) hHeld ?_
  (try simp only [Act.put, List.setIfInBounds_toArray, List.set_cons_zero, List.set_cons_succ])
  refine wpAnyH_take (i := 7) (oi := { dst := some 125, op := Op.fieldAddr 48 (Operand.tmp 12) 1, type := 0, pos := "law.go:241", after := #[{ on := 4, ground := Ground.guard }], guard := some (4, false) }) (v := ?v2005) rfl (by kernel_rfl) (by kernel_rfl) (by kernel_rfl) (fun _ _ _ h => h) (Or.inl ⟨by rfl, ?hy2005⟩) hHeld ?_
  case hy2005 => (intro w hSw; (try dsimp only at hSw); go_simp; (try with_reducible rfl))
  (try simp only [Act.put, List.setIfInBounds_toArray, List.set_cons_zero, List.set_cons_succ])
  refine' wpAnyH_take (i := 8) (oi := { dst := some 126, op := Op.load 27 (Operand.tmp 125), type := 27, pos := "law.go:241", after := #[{ on := 7, ground := Ground.data }, { on := 4, ground := Ground.guard }], guard := some (4, false) }) (v := _) rfl (by kernel_rfl) (by kernel_rfl) (by kernel_rfl) (fun _ _ _ h => h) (yieldsIf_load_mid (by rfl) _ _ rfl KQ 32 rfl (nums .u8 q.id) _ (fun _ h => range_keep h rq) un rfl hiq.out) hHeld ?_
  (try simp only [Act.put, List.setIfInBounds_toArray, List.set_cons_zero, List.set_cons_succ])
  refine wpAnyH_take (i := 9) (oi := { dst := some 127, op := Op.binOp BinOp.neq 27 (Operand.tmp 124) (Operand.tmp 126) 27, type := 4, pos := "law.go:241", after := #[{ on := 6, ground := Ground.data }, { on := 8, ground := Ground.data }, { on := 4, ground := Ground.guard }], guard := some (4, false) }) (v := ?v2006) rfl (by kernel_rfl) (by kernel_rfl) (by kernel_rfl) (fun _ _ _ h => h) (Or.inl ⟨by rfl, ?hy2006⟩) hHeld ?_
  case hy2006 => (intro w hSw; (try dsimp only at hSw); go_simp; (try with_reducible rfl))
  (try simp only [Act.put, List.setIfInBounds_toArray, List.set_cons_zero, List.set_cons_succ])
  refine wpAnyH_take (i := 10) (oi := { dst := some 128, op := Op.pick (Operand.tmp 122) (Operand.const (Value.bool true)) (Operand.tmp 127), type := 4, pos := "law.go:241", after := #[{ on := 4, ground := Ground.data }, { on := 9, ground := Ground.data }], guard := none }) (v := ?v2007) rfl (by kernel_rfl) (by kernel_rfl) (by kernel_rfl) (fun _ _ _ h => h) (Or.inl ⟨by rfl, ?hy2007⟩) hHeld ?_
  case hy2007 => (intro w hSw; (try dsimp only at hSw); go_simp; (try with_reducible rfl))
  (try simp only [Act.put, List.setIfInBounds_toArray, List.set_cons_zero, List.set_cons_succ])
  refine wpAnyH_take (i := 11) (oi := { dst := some 129, op := Op.move (Operand.tmp 128), type := 4, pos := "law.go:241", after := #[{ on := 10, ground := Ground.data }, { on := 4, ground := Ground.chain }], guard := none }) (v := ?v2008) rfl (by kernel_rfl) (by kernel_rfl) (by kernel_rfl) (fun _ _ _ h => h) (Or.inl ⟨by rfl, ?hy2008⟩) hHeld ?_
  case hy2008 => (intro w hSw; (try dsimp only at hSw); go_simp; (try with_reducible rfl))
  (try simp only [Act.put, List.setIfInBounds_toArray, List.set_cons_zero, List.set_cons_succ])
  refine wpAnyH_take (i := 12) (oi := { dst := some 130, op := Op.fieldAddr 40 (Operand.tmp 15) 3, type := 0, pos := "law.go:241", after := #[{ on := 11, ground := Ground.guard }], guard := some (11, false) }) (v := ?v2009) rfl (by kernel_rfl) (by kernel_rfl) (by kernel_rfl) (fun _ _ _ h => h) (Or.inl ⟨by rfl, ?hy2009⟩) hHeld ?_
  case hy2009 => (intro w hSw; (try dsimp only at hSw); go_simp; (try with_reducible rfl))
  (try simp only [Act.put, List.setIfInBounds_toArray, List.set_cons_zero, List.set_cons_succ])
  refine wpAnyH_take (i := 13) (oi := { dst := some 131, op := Op.load 28 (Operand.tmp 130), type := 28, pos := "law.go:241", after := #[{ on := 12, ground := Ground.data }, { on := 11, ground := Ground.guard }], guard := some (11, false) }) (v := (.int .u64 (b.am : Int))) rfl (by kernel_rfl) (by kernel_rfl) (by kernel_rfl) (fun _ _ _ h => h) (Or.inl ⟨by rfl, fun w h => by have c9 := cell_keep h am1; go_simp⟩) hHeld ?_
  (try simp only [Act.put, List.setIfInBounds_toArray, List.set_cons_zero, List.set_cons_succ])
  refine wpAnyH_take (i := 14) (oi := { dst := some 132, op := Op.fieldAddr 48 (Operand.tmp 12) 5, type := 0, pos := "law.go:241", after := #[{ on := 11, ground := Ground.guard }], guard := some (11, false) }) (v := ?v2010) rfl (by kernel_rfl) (by kernel_rfl) (by kernel_rfl) (fun _ _ _ h => h) (Or.inl ⟨by rfl, ?hy2010⟩) hHeld ?_
  case hy2010 => (intro w hSw; (try dsimp only at hSw); go_simp; (try with_reducible rfl))
  (try simp only [Act.put, List.setIfInBounds_toArray, List.set_cons_zero, List.set_cons_succ])
  refine wpAnyH_take (i := 15) (oi := { dst := some 133, op := Op.fieldAddr 30 (Operand.tmp 132) 0, type := 0, pos := "law.go:241", after := #[{ on := 14, ground := Ground.data }, { on := 11, ground := Ground.guard }], guard := some (11, false) }) (v := ?v2011) rfl (by kernel_rfl) (by kernel_rfl) (by kernel_rfl) (fun _ _ _ h => h) (Or.inl ⟨by rfl, ?hy2011⟩) hHeld ?_
  case hy2011 => (intro w hSw; (try dsimp only at hSw); go_simp; (try with_reducible rfl))
  (try simp only [Act.put, List.setIfInBounds_toArray, List.set_cons_zero, List.set_cons_succ])
  refine wpAnyH_take (i := 16) (oi := { dst := some 134, op := Op.load 28 (Operand.tmp 133), type := 28, pos := "law.go:241", after := #[{ on := 15, ground := Ground.data }, { on := 11, ground := Ground.guard }], guard := some (11, false) }) (v := (.int .u64 (q.rc : Int))) rfl (by kernel_rfl) (by kernel_rfl) (by kernel_rfl) (fun _ _ _ h => h) (Or.inl ⟨by rfl, fun w h => by have c9 := cell_keep h ra1; go_simp⟩) hHeld ?_
  (try simp only [Act.put, List.setIfInBounds_toArray, List.set_cons_zero, List.set_cons_succ])
  refine wpAnyH_take (i := 18) (oi := { dst := some 136, op := Op.fieldAddr 40 (Operand.tmp 14) 3, type := 0, pos := "law.go:241", after := #[{ on := 11, ground := Ground.guard }], guard := some (11, false) }) (v := ?v2012) rfl (by kernel_rfl) (by kernel_rfl) (by kernel_rfl) (fun _ _ _ h => h) (Or.inl ⟨by rfl, ?hy2012⟩) hHeld ?_
  case hy2012 => (intro w hSw; (try dsimp only at hSw); go_simp; (try with_reducible rfl))
  (try simp only [Act.put, List.setIfInBounds_toArray, List.set_cons_zero, List.set_cons_succ])
  refine wpAnyH_take (i := 19) (oi := { dst := some 137, op := Op.load 28 (Operand.tmp 136), type := 28, pos := "law.go:241", after := #[{ on := 18, ground := Ground.data }, { on := 11, ground := Ground.guard }], guard := some (11, false) }) (v := (.int .u64 (a.am : Int))) rfl (by kernel_rfl) (by kernel_rfl) (by kernel_rfl) (fun _ _ _ h => h) (Or.inl ⟨by rfl, fun w h => by have c9 := cell_keep h am2; go_simp⟩) hHeld ?_
  (try simp only [Act.put, List.setIfInBounds_toArray, List.set_cons_zero, List.set_cons_succ])
  refine wpAnyH_take (i := 20) (oi := { dst := some 138, op := Op.fieldAddr 48 (Operand.tmp 12) 5, type := 0, pos := "law.go:241", after := #[{ on := 11, ground := Ground.guard }], guard := some (11, false) }) (v := ?v2013) rfl (by kernel_rfl) (by kernel_rfl) (by kernel_rfl) (fun _ _ _ h => h) (Or.inl ⟨by rfl, ?hy2013⟩) hHeld ?_
  case hy2013 => (intro w hSw; (try dsimp only at hSw); go_simp; (try with_reducible rfl))
  (try simp only [Act.put, List.setIfInBounds_toArray, List.set_cons_zero, List.set_cons_succ])
  refine wpAnyH_take (i := 21) (oi := { dst := some 139, op := Op.fieldAddr 30 (Operand.tmp 138) 1, type := 0, pos := "law.go:241", after := #[{ on := 20, ground := Ground.data }, { on := 11, ground := Ground.guard }], guard := some (11, false) }) (v := ?v2014) rfl (by kernel_rfl) (by kernel_rfl) (by kernel_rfl) (fun _ _ _ h => h) (Or.inl ⟨by rfl, ?hy2014⟩) hHeld ?_
  case hy2014 => (intro w hSw; (try dsimp only at hSw); go_simp; (try with_reducible rfl))
  (try simp only [Act.put, List.setIfInBounds_toArray, List.set_cons_zero, List.set_cons_succ])
  refine wpAnyH_take (i := 22) (oi := { dst := some 140, op := Op.load 28 (Operand.tmp 139), type := 28, pos := "law.go:241", after := #[{ on := 21, ground := Ground.data }, { on := 11, ground := Ground.guard }], guard := some (11, false) }) (v := (.int .u64 (q.ru : Int))) rfl (by kernel_rfl) (by kernel_rfl) (by kernel_rfl) (fun _ _ _ h => h) (Or.inl ⟨by rfl, fun w h => by have c9 := cell_keep h ra2; go_simp⟩) hHeld ?_
  (try simp only [Act.put, List.setIfInBounds_toArray, List.set_cons_zero, List.set_cons_succ])
  refine wpAnyH_ready (rs := [17]) (by kernel_rfl) (by simp) ?_
  refine AllReadyH.cons (o := { dst := some 135, op := Op.call { callee := Callee.value (Operand.func 24), args := #[Operand.tmp 131, Operand.tmp 134], argTypes := #[28, 28] }, type := 70, pos := "law.go:241", after := #[{ on := 13, ground := Ground.data }, { on := 16, ground := Ground.data }, { on := 11, ground := Ground.chain }, { on := 11, ground := Ground.guard }], guard := some (11, false) }) rfl (fun K hK => ?_) ?_
  go_simp; refine (P1 _).out.mono ?_; rintro e w17 ⟨p1, y1, rfl, d1, ⟨a1, c1, rfl, s1⟩, b1⟩; have D1 := hid d1; have S1 := hid s1; have B1 := hid b1; clear d1 s1 b1
  refine hK.out _ _ (by first | exact hHeld.trans (B1.out.mono hHeld.size) | exact B1.out) (fun hHeld => ?_)
  clear hK K
  (try simp only [List.setIfInBounds_toArray, List.set_cons_zero, List.set_cons_succ])
  refine wpAnyH_ready (rs := [23]) (by kernel_rfl) (by simp) ?_
  refine AllReadyH.cons (o := { dst := some 141, op := Op.call { callee := Callee.value (Operand.func 24), args := #[Operand.tmp 137, Operand.tmp 140], argTypes := #[28, 28] }, type := 70, pos := "law.go:241", after := #[{ on := 19, ground := Ground.data }, { on := 22, ground := Ground.data }, { on := 17, ground := Ground.chain }, { on := 11, ground := Ground.guard }], guard := some (11, false) }) rfl (fun K hK => ?_) ?_
  go_simp; refine (P2 _).out.mono ?_; rintro e w23 ⟨p2, y2, rfl, d2, ⟨a2, c2, rfl, s2⟩, b2⟩; have D2 := hid d2; have S2 := hid s2; have B2 := hid b2; clear d2 s2 b2
  refine hK.out _ _ (by first | exact hHeld.trans (B2.out.mono hHeld.size) | exact B2.out) (fun hHeld => ?_)
  clear hK K
  (try simp only [List.setIfInBounds_toArray, List.set_cons_zero, List.set_cons_succ])
  refine wpAnyH_ready (rs := [24]) (by kernel_rfl) (by simp) ?_
  refine AllReadyH.cons (o := { dst := some 142, op := Op.call { callee := Callee.value (Operand.func 23), args := #[Operand.tmp 135, Operand.tmp 141], argTypes := #[70, 70] }, type := 3, pos := "law.go:241", after := #[{ on := 17, ground := Ground.data }, { on := 23, ground := Ground.data }, { on := 23, ground := Ground.chain }, { on := 11, ground := Ground.guard }], guard := some (11, false) }) rfl (fun K hK => ?_) ?_
  go_simp; (first | refine (CW _ _ _ _ _ _ _ _ _ S1.out D1.out B2.out S2.out D2.out (Below.refl _ _)).out.mono ?_ | refine (CW _ _ _ _ _ _ _ _ _ S1.out D1.out (Below.refl _ _) S2.out D2.out B1.out).out.mono ?_); rintro e w24 ⟨rfl, b3⟩; have B3 := hid b3; clear b3
  refine hK.out _ _ (by first | exact hHeld.trans (B3.out.mono hHeld.size) | exact B3.out) (fun hHeld => ?_)
  clear hK K
  (try simp only [List.setIfInBounds_toArray, List.set_cons_zero, List.set_cons_succ])
  refine wpAnyH_take (i := 25) (oi := { dst := some 143, op := Op.binOp BinOp.gtr 3 (Operand.tmp 142) (Operand.const (Value.int IntKind.i64 0)) 3, type := 4, pos := "law.go:241", after := #[{ on := 24, ground := Ground.data }, { on := 11, ground := Ground.guard }], guard := some (11, false) }) (v := ?v2015) rfl (by kernel_rfl) (by kernel_rfl) (by kernel_rfl) (fun _ _ _ h => h) (Or.inl ⟨by rfl, ?hy2015⟩) hHeld ?_
  case hy2015 => (intro w hSw; (try dsimp only at hSw); go_simp; (try with_reducible rfl))
  (try simp only [Act.put, List.setIfInBounds_toArray, List.set_cons_zero, List.set_cons_succ])
  refine wpAnyH_take (i := 26) (oi := { dst := some 144, op := Op.pick (Operand.tmp 129) (Operand.const (Value.bool true)) (Operand.tmp 143), type := 4, pos := "law.go:241", after := #[{ on := 11, ground := Ground.data }, { on := 25, ground := Ground.data }], guard := none }) (v := ?v2016) rfl (by kernel_rfl) (by kernel_rfl) (by kernel_rfl) (fun _ _ _ h => h) (Or.inl ⟨by rfl, ?hy2016⟩) hHeld ?_
  case hy2016 => (intro w hSw; (try dsimp only at hSw); go_simp; (try with_reducible rfl))
  (try simp only [Act.put, List.setIfInBounds_toArray, List.set_cons_zero, List.set_cons_succ])
  refine wpAnyH_done (by kernel_rfl) ?_ _
  rotate_left
  exact AllReadyH.nil
  exact AllReadyH.nil
  exact AllReadyH.nil
  all_goals exact ⟨rfl, ⟨rfl, rfl, rfl, rfl, rfl, rfl, rfl, rfl⟩, rfl, hHeld⟩
def Kep24 (dl : Int) (qv sv : Value) (tb eb k R : Nat) (w : World) : Exit → Act → World → Prop
  | .normal, A, w' => A.defers = [] ∧ KSl dl qv sv tb eb k R A.tmps ∧ tm A.tmps 171 = .bool false ∧ Below w.heap.size w w'
  | _, _, _ => False
set_option maxRecDepth 1000000 in
set_option maxHeartbeats 16000000 in
theorem kep24 (dl : Int) (qv sv : Value) (tb eb k R : Nat) (T : Array Value) (w : World) (KA KB KQ : Nat) (a b : Ofr) (q : Quo) (s : KSl dl qv sv tb eb k R T) (e12 : tm T 12 = .pointer (some ⟨KQ, 0, none⟩)) (e14 : tm T 14 = .pointer (some ⟨KA, 0, none⟩)) (e15 : tm T 15 = .pointer (some ⟨KB, 0, none⟩)) (ha : a.ok) (hb : b.ok) (hq : q.ok)
    (h14 : w.heap[KA]? = some (.cells a.cells.toArray 40 (0, 0))) (h15 : w.heap[KB]? = some (.cells b.cells.toArray 40 (0, 0))) (h12 : w.heap[KQ]? = some (.cells q.cells.toArray 48 (0, 0)))
    (hz : b.id = hz32) (hi : a.id = q.id) (hp : b.am * q.ru ≤ a.am * q.rc) : (kepC 24).wp Tryd.prog (Kep24 dl qv sv tb eb k R w) ⟨T, []⟩ w := by
  have e0 := s.t0
  have e1 := s.t1
  have e2 := s.t2
  have e7 := s.t7
  have e8 := s.t8
  have e10 := s.t10
  have e11 := s.t11
  rw [frameK s.size, e0, e1, e2, e7, e8, e10, e11, e12, e14, e15]
  have rx : w.rangeAt KB 2 (nums .u8 hz32) := by have := b.hasId.rng (row_range h15); rw [hz] at this; simpa using this
  have ry : w.rangeAt KA 2 (nums .u8 q.id) := by have := a.hasId.rng (row_range h14); rw [hi] at this; simpa using this
  have rq : w.rangeAt KQ 32 (nums .u8 q.id) := by have := gen_range (row_range h12) 32 32; rwa [Quo.id_at hq] at this
  have am1 : w.cell? ⟨KB, 34, none⟩ = some (.int .u64 (b.am : Int)) := by have := (Ofr.hasAm hb).one (row_range h15); simpa using this
  have am2 : w.cell? ⟨KA, 34, none⟩ = some (.int .u64 (a.am : Int)) := by have := (Ofr.hasAm ha).one (row_range h14); simpa using this
  have ra1 : w.cell? ⟨KQ, 68, none⟩ = some (.int .u64 (q.ru : Int)) := gen_cell (row_range h12) (Quo.get hq 4)
  have ra2 : w.cell? ⟨KQ, 67, none⟩ = some (.int .u64 (q.rc : Int)) := gen_cell (row_range h12) (Quo.get hq 3)
  have un := Tryd.underlying27
  have hiz := hid (show (Tryd.prog.info? 27).map (·.size) = some (nums .u8 hz32).length by kernel_rfl)
  have hiq := hid (show (Tryd.prog.info? 27).map (·.size) = some (nums .u8 q.id).length by rw [nums_length, hq.il]; exact infoH)
  have n1 := neq_hv (xs := hz32) (ys := hz32) hz32_ok.1 hz32_ok.1 hz32_ok.2 hz32_ok.2
  have g1 := guard_hv hz32 hz32
  have n2 := neq_hv (xs := q.id) (ys := q.id) hq.il hq.il hq.ib hq.ib
  have g2 := guard_hv q.id q.id
  rw [decide_eq_true rfl] at n1 n2
  unfold hv at n1 g1 n2 g2
  simp only [Bool.not_true] at n1 n2
  have bz := bhz
  have P1 := fun wx => hid (product21 b.am q.ru hb.ab hq.ub wx)
  have P2 := fun wx => hid (product21 a.am q.rc ha.ab hq.cb wx)
  have tc : decide (cmpI (b.am * q.ru) (a.am * q.rc) > 0) = false := by rw [cmp_pos21]; exact decide_eq_false (by omega)
  have CW := fun (a1 a2 : Option Addr) (c1 c2 : Nat) (y1 y2 : List Nat) (u v wx : World) s1 d1 b1 s2 d2 b2 => hid (cmp_two21 (a := a1) (a' := a2) (c := c1) (c' := c2) (xs := y1) (ys := y2) (u := u) (u' := v) (v := wx) (Nat.mul_lt_mul'' hb.ab hq.ub) (Nat.mul_lt_mul'' ha.ab hq.cb) s1 d1 b1 s2 d2 b2)
  clear ha hb hq h12 h14 h15 hz hi hp e12 e14 e15
  clear s e0 e1 e2 e7 e8 e10 e11
  conv => arg 2; whnf
  refine wp_region_held_drew (S := fun w' => Below w.heap.size w w') (by kernel_rfl) ((Below.refl _ _).drew) (fun hHeld => ?_)
  try simp only [List.size_toArray, List.length_cons, List.length_nil, Nat.reduceAdd, Array.replicate_succ, Array.replicate_zero, List.push_toArray, List.nil_append, List.cons_append]
  refine wpAnyH_take (i := 0) (oi := { dst := some 145, op := Op.fieldAddr 40 (Operand.tmp 15) 2, type := 0, pos := "law.go:244", after := #[], guard := none }) (v := ?v3001) rfl (by kernel_rfl) (by kernel_rfl) (by kernel_rfl) (fun _ _ _ h => h) (Or.inl ⟨by rfl, ?hy3001⟩) hHeld ?_
  case hy3001 => (intro w hSw; (try dsimp only at hSw); go_simp; (try with_reducible rfl))
  (try simp only [Act.put, List.setIfInBounds_toArray, List.set_cons_zero, List.set_cons_succ])
  refine' wpAnyH_take (i := 1) (oi := { dst := some 146, op := Op.load 27 (Operand.tmp 145), type := 27, pos := "law.go:244", after := #[{ on := 0, ground := Ground.data }], guard := none }) (v := _) rfl (by kernel_rfl) (by kernel_rfl) (by kernel_rfl) (fun _ _ _ h => h) (yieldsIf_load_mid (by rfl) _ _ rfl KB 2 rfl (nums .u8 hz32) _ (fun _ h => range_keep h rx) un rfl hiz.out) hHeld ?_
  (try simp only [Act.put, List.setIfInBounds_toArray, List.set_cons_zero, List.set_cons_succ])
  refine wpAnyH_take (i := 2) (oi := { dst := some 147, op := Op.build 27 #[], type := 27, pos := "law.go:244", after := #[], guard := none }) (v := (.agg (nums .u8 hz32).toArray)) rfl (by kernel_rfl) (by kernel_rfl) (by kernel_rfl) (fun _ _ _ h => h) (Or.inl ⟨by rfl, fun w _ => run_bld0 rfl bz⟩) hHeld ?_
  (try simp only [Act.put, List.setIfInBounds_toArray, List.set_cons_zero, List.set_cons_succ])
  refine wpAnyH_take (i := 3) (oi := { dst := some 148, op := Op.binOp BinOp.neq 27 (Operand.tmp 146) (Operand.tmp 147) 27, type := 4, pos := "law.go:244", after := #[{ on := 1, ground := Ground.data }, { on := 2, ground := Ground.data }], guard := none }) (v := ?v3002) rfl (by kernel_rfl) (by kernel_rfl) (by kernel_rfl) (fun _ _ _ h => h) (Or.inl ⟨by rfl, ?hy3002⟩) hHeld ?_
  case hy3002 => (intro w hSw; (try dsimp only at hSw); go_simp; (try with_reducible rfl))
  (try simp only [Act.put, List.setIfInBounds_toArray, List.set_cons_zero, List.set_cons_succ])
  refine wpAnyH_take (i := 4) (oi := { dst := some 149, op := Op.move (Operand.tmp 148), type := 4, pos := "law.go:244", after := #[{ on := 3, ground := Ground.data }], guard := none }) (v := ?v3003) rfl (by kernel_rfl) (by kernel_rfl) (by kernel_rfl) (fun _ _ _ h => h) (Or.inl ⟨by rfl, ?hy3003⟩) hHeld ?_
  case hy3003 => (intro w hSw; (try dsimp only at hSw); go_simp; (try with_reducible rfl))
  (try simp only [Act.put, List.setIfInBounds_toArray, List.set_cons_zero, List.set_cons_succ])
  refine wpAnyH_take (i := 5) (oi := { dst := some 150, op := Op.fieldAddr 40 (Operand.tmp 14) 2, type := 0, pos := "law.go:244", after := #[{ on := 4, ground := Ground.guard }], guard := some (4, false) }) (v := ?v3004) rfl (by kernel_rfl) (by kernel_rfl) (by kernel_rfl) (fun _ _ _ h => h) (Or.inl ⟨by rfl, ?hy3004⟩) hHeld ?_
  case hy3004 => (intro w hSw; (try dsimp only at hSw); go_simp; (try with_reducible rfl))
  (try simp only [Act.put, List.setIfInBounds_toArray, List.set_cons_zero, List.set_cons_succ])
  refine' wpAnyH_take (i := 6) (oi := { dst := some 151, op := Op.load 27 (Operand.tmp 150), type := 27, pos := "law.go:244", after := #[{ on := 5, ground := Ground.data }, { on := 4, ground := Ground.guard }], guard := some (4, false) }) (v := _) rfl (by kernel_rfl) (by kernel_rfl) (by kernel_rfl) (fun _ _ _ h => h) (yieldsIf_load_mid (by rfl) _ _ rfl KA 2 rfl (nums .u8 q.id) _ (fun _ h => range_keep h ry) un rfl hiq.out) hHeld ?_
  (try simp only [Act.put, List.setIfInBounds_toArray, List.set_cons_zero, List.set_cons_succ])
  refine wpAnyH_take (i := 7) (oi := { dst := some 152, op := Op.fieldAddr 48 (Operand.tmp 12) 1, type := 0, pos := "law.go:244", after := #[{ on := 4, ground := Ground.guard }], guard := some (4, false) }) (v := ?v3005) rfl (by kernel_rfl) (by kernel_rfl) (by kernel_rfl) (fun _ _ _ h => h) (Or.inl ⟨by rfl, ?hy3005⟩) hHeld ?_
  case hy3005 => (intro w hSw; (try dsimp only at hSw); go_simp; (try with_reducible rfl))
  (try simp only [Act.put, List.setIfInBounds_toArray, List.set_cons_zero, List.set_cons_succ])
  refine' wpAnyH_take (i := 8) (oi := { dst := some 153, op := Op.load 27 (Operand.tmp 152), type := 27, pos := "law.go:244", after := #[{ on := 7, ground := Ground.data }, { on := 4, ground := Ground.guard }], guard := some (4, false) }) (v := _) rfl (by kernel_rfl) (by kernel_rfl) (by kernel_rfl) (fun _ _ _ h => h) (yieldsIf_load_mid (by rfl) _ _ rfl KQ 32 rfl (nums .u8 q.id) _ (fun _ h => range_keep h rq) un rfl hiq.out) hHeld ?_
  (try simp only [Act.put, List.setIfInBounds_toArray, List.set_cons_zero, List.set_cons_succ])
  refine wpAnyH_take (i := 9) (oi := { dst := some 154, op := Op.binOp BinOp.neq 27 (Operand.tmp 151) (Operand.tmp 153) 27, type := 4, pos := "law.go:244", after := #[{ on := 6, ground := Ground.data }, { on := 8, ground := Ground.data }, { on := 4, ground := Ground.guard }], guard := some (4, false) }) (v := ?v3006) rfl (by kernel_rfl) (by kernel_rfl) (by kernel_rfl) (fun _ _ _ h => h) (Or.inl ⟨by rfl, ?hy3006⟩) hHeld ?_
  case hy3006 => (intro w hSw; (try dsimp only at hSw); go_simp; (try with_reducible rfl))
  (try simp only [Act.put, List.setIfInBounds_toArray, List.set_cons_zero, List.set_cons_succ])
  refine wpAnyH_take (i := 10) (oi := { dst := some 155, op := Op.pick (Operand.tmp 149) (Operand.const (Value.bool true)) (Operand.tmp 154), type := 4, pos := "law.go:244", after := #[{ on := 4, ground := Ground.data }, { on := 9, ground := Ground.data }], guard := none }) (v := ?v3007) rfl (by kernel_rfl) (by kernel_rfl) (by kernel_rfl) (fun _ _ _ h => h) (Or.inl ⟨by rfl, ?hy3007⟩) hHeld ?_
  case hy3007 => (intro w hSw; (try dsimp only at hSw); go_simp; (try with_reducible rfl))
  (try simp only [Act.put, List.setIfInBounds_toArray, List.set_cons_zero, List.set_cons_succ])
  refine wpAnyH_take (i := 11) (oi := { dst := some 156, op := Op.move (Operand.tmp 155), type := 4, pos := "law.go:244", after := #[{ on := 10, ground := Ground.data }, { on := 4, ground := Ground.chain }], guard := none }) (v := ?v3008) rfl (by kernel_rfl) (by kernel_rfl) (by kernel_rfl) (fun _ _ _ h => h) (Or.inl ⟨by rfl, ?hy3008⟩) hHeld ?_
  case hy3008 => (intro w hSw; (try dsimp only at hSw); go_simp; (try with_reducible rfl))
  (try simp only [Act.put, List.setIfInBounds_toArray, List.set_cons_zero, List.set_cons_succ])
  refine wpAnyH_take (i := 12) (oi := { dst := some 157, op := Op.fieldAddr 40 (Operand.tmp 15) 3, type := 0, pos := "law.go:244", after := #[{ on := 11, ground := Ground.guard }], guard := some (11, false) }) (v := ?v3009) rfl (by kernel_rfl) (by kernel_rfl) (by kernel_rfl) (fun _ _ _ h => h) (Or.inl ⟨by rfl, ?hy3009⟩) hHeld ?_
  case hy3009 => (intro w hSw; (try dsimp only at hSw); go_simp; (try with_reducible rfl))
  (try simp only [Act.put, List.setIfInBounds_toArray, List.set_cons_zero, List.set_cons_succ])
  refine wpAnyH_take (i := 13) (oi := { dst := some 158, op := Op.load 28 (Operand.tmp 157), type := 28, pos := "law.go:244", after := #[{ on := 12, ground := Ground.data }, { on := 11, ground := Ground.guard }], guard := some (11, false) }) (v := (.int .u64 (b.am : Int))) rfl (by kernel_rfl) (by kernel_rfl) (by kernel_rfl) (fun _ _ _ h => h) (Or.inl ⟨by rfl, fun w h => by have c9 := cell_keep h am1; go_simp⟩) hHeld ?_
  (try simp only [Act.put, List.setIfInBounds_toArray, List.set_cons_zero, List.set_cons_succ])
  refine wpAnyH_take (i := 14) (oi := { dst := some 159, op := Op.fieldAddr 48 (Operand.tmp 12) 5, type := 0, pos := "law.go:244", after := #[{ on := 11, ground := Ground.guard }], guard := some (11, false) }) (v := ?v3010) rfl (by kernel_rfl) (by kernel_rfl) (by kernel_rfl) (fun _ _ _ h => h) (Or.inl ⟨by rfl, ?hy3010⟩) hHeld ?_
  case hy3010 => (intro w hSw; (try dsimp only at hSw); go_simp; (try with_reducible rfl))
  (try simp only [Act.put, List.setIfInBounds_toArray, List.set_cons_zero, List.set_cons_succ])
  refine wpAnyH_take (i := 15) (oi := { dst := some 160, op := Op.fieldAddr 30 (Operand.tmp 159) 1, type := 0, pos := "law.go:244", after := #[{ on := 14, ground := Ground.data }, { on := 11, ground := Ground.guard }], guard := some (11, false) }) (v := ?v3011) rfl (by kernel_rfl) (by kernel_rfl) (by kernel_rfl) (fun _ _ _ h => h) (Or.inl ⟨by rfl, ?hy3011⟩) hHeld ?_
  case hy3011 => (intro w hSw; (try dsimp only at hSw); go_simp; (try with_reducible rfl))
  (try simp only [Act.put, List.setIfInBounds_toArray, List.set_cons_zero, List.set_cons_succ])
  refine wpAnyH_take (i := 16) (oi := { dst := some 161, op := Op.load 28 (Operand.tmp 160), type := 28, pos := "law.go:244", after := #[{ on := 15, ground := Ground.data }, { on := 11, ground := Ground.guard }], guard := some (11, false) }) (v := (.int .u64 (q.ru : Int))) rfl (by kernel_rfl) (by kernel_rfl) (by kernel_rfl) (fun _ _ _ h => h) (Or.inl ⟨by rfl, fun w h => by have c9 := cell_keep h ra1; go_simp⟩) hHeld ?_
  (try simp only [Act.put, List.setIfInBounds_toArray, List.set_cons_zero, List.set_cons_succ])
  refine wpAnyH_take (i := 18) (oi := { dst := some 163, op := Op.fieldAddr 40 (Operand.tmp 14) 3, type := 0, pos := "law.go:244", after := #[{ on := 11, ground := Ground.guard }], guard := some (11, false) }) (v := ?v3012) rfl (by kernel_rfl) (by kernel_rfl) (by kernel_rfl) (fun _ _ _ h => h) (Or.inl ⟨by rfl, ?hy3012⟩) hHeld ?_
  case hy3012 => (intro w hSw; (try dsimp only at hSw); go_simp; (try with_reducible rfl))
  (try simp only [Act.put, List.setIfInBounds_toArray, List.set_cons_zero, List.set_cons_succ])
  refine wpAnyH_take (i := 19) (oi := { dst := some 164, op := Op.load 28 (Operand.tmp 163), type := 28, pos := "law.go:244", after := #[{ on := 18, ground := Ground.data }, { on := 11, ground := Ground.guard }], guard := some (11, false) }) (v := (.int .u64 (a.am : Int))) rfl (by kernel_rfl) (by kernel_rfl) (by kernel_rfl) (fun _ _ _ h => h) (Or.inl ⟨by rfl, fun w h => by have c9 := cell_keep h am2; go_simp⟩) hHeld ?_
  (try simp only [Act.put, List.setIfInBounds_toArray, List.set_cons_zero, List.set_cons_succ])
  refine wpAnyH_take (i := 20) (oi := { dst := some 165, op := Op.fieldAddr 48 (Operand.tmp 12) 5, type := 0, pos := "law.go:244", after := #[{ on := 11, ground := Ground.guard }], guard := some (11, false) }) (v := ?v3013) rfl (by kernel_rfl) (by kernel_rfl) (by kernel_rfl) (fun _ _ _ h => h) (Or.inl ⟨by rfl, ?hy3013⟩) hHeld ?_
  case hy3013 => (intro w hSw; (try dsimp only at hSw); go_simp; (try with_reducible rfl))
  (try simp only [Act.put, List.setIfInBounds_toArray, List.set_cons_zero, List.set_cons_succ])
  refine wpAnyH_take (i := 21) (oi := { dst := some 166, op := Op.fieldAddr 30 (Operand.tmp 165) 0, type := 0, pos := "law.go:244", after := #[{ on := 20, ground := Ground.data }, { on := 11, ground := Ground.guard }], guard := some (11, false) }) (v := ?v3014) rfl (by kernel_rfl) (by kernel_rfl) (by kernel_rfl) (fun _ _ _ h => h) (Or.inl ⟨by rfl, ?hy3014⟩) hHeld ?_
  case hy3014 => (intro w hSw; (try dsimp only at hSw); go_simp; (try with_reducible rfl))
  (try simp only [Act.put, List.setIfInBounds_toArray, List.set_cons_zero, List.set_cons_succ])
  refine wpAnyH_take (i := 22) (oi := { dst := some 167, op := Op.load 28 (Operand.tmp 166), type := 28, pos := "law.go:244", after := #[{ on := 21, ground := Ground.data }, { on := 11, ground := Ground.guard }], guard := some (11, false) }) (v := (.int .u64 (q.rc : Int))) rfl (by kernel_rfl) (by kernel_rfl) (by kernel_rfl) (fun _ _ _ h => h) (Or.inl ⟨by rfl, fun w h => by have c9 := cell_keep h ra2; go_simp⟩) hHeld ?_
  (try simp only [Act.put, List.setIfInBounds_toArray, List.set_cons_zero, List.set_cons_succ])
  refine wpAnyH_ready (rs := [17]) (by kernel_rfl) (by simp) ?_
  refine AllReadyH.cons (o := { dst := some 162, op := Op.call { callee := Callee.value (Operand.func 24), args := #[Operand.tmp 158, Operand.tmp 161], argTypes := #[28, 28] }, type := 70, pos := "law.go:244", after := #[{ on := 13, ground := Ground.data }, { on := 16, ground := Ground.data }, { on := 11, ground := Ground.chain }, { on := 11, ground := Ground.guard }], guard := some (11, false) }) rfl (fun K hK => ?_) ?_
  go_simp; refine (P1 _).out.mono ?_; rintro e w17 ⟨p1, y1, rfl, d1, ⟨a1, c1, rfl, s1⟩, b1⟩; have D1 := hid d1; have S1 := hid s1; have B1 := hid b1; clear d1 s1 b1
  refine hK.out _ _ (by first | exact hHeld.trans (B1.out.mono hHeld.size) | exact B1.out) (fun hHeld => ?_)
  clear hK K
  (try simp only [List.setIfInBounds_toArray, List.set_cons_zero, List.set_cons_succ])
  refine wpAnyH_ready (rs := [23]) (by kernel_rfl) (by simp) ?_
  refine AllReadyH.cons (o := { dst := some 168, op := Op.call { callee := Callee.value (Operand.func 24), args := #[Operand.tmp 164, Operand.tmp 167], argTypes := #[28, 28] }, type := 70, pos := "law.go:244", after := #[{ on := 19, ground := Ground.data }, { on := 22, ground := Ground.data }, { on := 17, ground := Ground.chain }, { on := 11, ground := Ground.guard }], guard := some (11, false) }) rfl (fun K hK => ?_) ?_
  go_simp; refine (P2 _).out.mono ?_; rintro e w23 ⟨p2, y2, rfl, d2, ⟨a2, c2, rfl, s2⟩, b2⟩; have D2 := hid d2; have S2 := hid s2; have B2 := hid b2; clear d2 s2 b2
  refine hK.out _ _ (by first | exact hHeld.trans (B2.out.mono hHeld.size) | exact B2.out) (fun hHeld => ?_)
  clear hK K
  (try simp only [List.setIfInBounds_toArray, List.set_cons_zero, List.set_cons_succ])
  refine wpAnyH_ready (rs := [24]) (by kernel_rfl) (by simp) ?_
  refine AllReadyH.cons (o := { dst := some 169, op := Op.call { callee := Callee.value (Operand.func 23), args := #[Operand.tmp 162, Operand.tmp 168], argTypes := #[70, 70] }, type := 3, pos := "law.go:244", after := #[{ on := 17, ground := Ground.data }, { on := 23, ground := Ground.data }, { on := 23, ground := Ground.chain }, { on := 11, ground := Ground.guard }], guard := some (11, false) }) rfl (fun K hK => ?_) ?_
  go_simp; (first | refine (CW _ _ _ _ _ _ _ _ _ S1.out D1.out B2.out S2.out D2.out (Below.refl _ _)).out.mono ?_ | refine (CW _ _ _ _ _ _ _ _ _ S1.out D1.out (Below.refl _ _) S2.out D2.out B1.out).out.mono ?_); rintro e w24 ⟨rfl, b3⟩; have B3 := hid b3; clear b3
  refine hK.out _ _ (by first | exact hHeld.trans (B3.out.mono hHeld.size) | exact B3.out) (fun hHeld => ?_)
  clear hK K
  (try simp only [List.setIfInBounds_toArray, List.set_cons_zero, List.set_cons_succ])
  refine wpAnyH_take (i := 25) (oi := { dst := some 170, op := Op.binOp BinOp.gtr 3 (Operand.tmp 169) (Operand.const (Value.int IntKind.i64 0)) 3, type := 4, pos := "law.go:244", after := #[{ on := 24, ground := Ground.data }, { on := 11, ground := Ground.guard }], guard := some (11, false) }) (v := ?v3015) rfl (by kernel_rfl) (by kernel_rfl) (by kernel_rfl) (fun _ _ _ h => h) (Or.inl ⟨by rfl, ?hy3015⟩) hHeld ?_
  case hy3015 => (intro w hSw; (try dsimp only at hSw); go_simp; (try with_reducible rfl))
  (try simp only [Act.put, List.setIfInBounds_toArray, List.set_cons_zero, List.set_cons_succ])
  refine wpAnyH_take (i := 26) (oi := { dst := some 171, op := Op.pick (Operand.tmp 156) (Operand.const (Value.bool true)) (Operand.tmp 170), type := 4, pos := "law.go:244", after := #[{ on := 11, ground := Ground.data }, { on := 25, ground := Ground.data }], guard := none }) (v := ?v3016) rfl (by kernel_rfl) (by kernel_rfl) (by kernel_rfl) (fun _ _ _ h => h) (Or.inl ⟨by rfl, ?hy3016⟩) hHeld ?_
  case hy3016 => (intro w hSw; (try dsimp only at hSw); go_simp; (try with_reducible rfl))
  (try simp only [Act.put, List.setIfInBounds_toArray, List.set_cons_zero, List.set_cons_succ])
  refine wpAnyH_done (by kernel_rfl) ?_ _
  rotate_left
  exact AllReadyH.nil
  exact AllReadyH.nil
  exact AllReadyH.nil
  all_goals exact ⟨rfl, ⟨rfl, rfl, rfl, rfl, rfl, rfl, rfl, rfl⟩, rfl, hHeld⟩
def Kep28 (dl : Int) (qv sv : Value) (tb eb k R : Nat) (w : World) : Exit → Act → World → Prop
  | .normal, A, w' => A.defers = [] ∧ KSl dl qv sv tb eb k R A.tmps ∧ tm A.tmps 196 = .bool false ∧ Below w.heap.size w w'
  | _, _, _ => False
theorem sl_mid {w : World} {g o : Nat} {xs : List Nat} (h : w.rangeAt g o (nums .u8 xs)) (hl : xs.length = 32) : Sl .u8 w (some ⟨g, o, none⟩) 32 32 xs :=
  ⟨by simp [hl], Nat.le_refl _, by unfold maxLen; omega, (fun e => nomatch e), g, o, fun _ => rfl, fun j u hu => h j u hu⟩
set_option maxRecDepth 1000000 in
set_option maxHeartbeats 16000000 in
theorem kep28 (dl : Int) (qv sv : Value) (tb eb k R : Nat) (T : Array Value) (w : World) (kc KV : Nat) (x : Ed) (lg : Lg) (s : KSl dl qv sv tb eb k R T) (e16 : tm T 16 = .pointer (some ⟨KV, 0, none⟩)) (e17 : tm T 17 = .int .i64 (kc : Int)) (hx : x.ok) (hl : lg.ok) (ht : Tabs w)
    (hr : w.heap[R]? = some (.cells x.cells.toArray 60 (0, 0))) (hv' : w.heap[KV]? = some (.cells lg.cells.toArray 42 (0, 0))) (hk : kc = 0 → sha x.sec = lg.o.lock) : (kepC 28).wp Tryd.prog (Kep28 dl qv sv tb eb k R w) ⟨T, []⟩ w := by
  have e0 := s.t0
  have e1 := s.t1
  have e2 := s.t2
  have e7 := s.t7
  have e8 := s.t8
  have e10 := s.t10
  have e11 := s.t11
  rw [frameK s.size, e0, e1, e2, e7, e8, e10, e11, e16, e17]
  have rs : w.rangeAt R 174 (nums .u8 x.sec) := by have := (Ed.hasSec hx).rng (row_range hr); simpa using this
  have rk : w.rangeAt KV 36 (nums .u8 lg.o.lock) := by have := (lg.hasO.trans (Ofr.hasLock hl.o)).rng (row_range hv'); simpa using this
  have SLs := hid (sl_mid rs hx.sec.1)
  have HT := hid ht
  have un := Tryd.underlying27
  have hil := hid (show (Tryd.prog.info? 27).map (·.size) = some (nums .u8 lg.o.lock).length by rw [nums_length, hl.o.ll]; exact infoH)
  have SW := fun (G : Nat) (wx : World) (hc : wx.cell? ⟨G, 0, none⟩ = some (.slice (some ⟨R, 174, none⟩) 32 32)) (hx' : Sl .u8 wx (some ⟨R, 174, none⟩) 32 32 x.sec) (htx : Tabs wx) => hid (sum1_walk G (some ⟨R, 174, none⟩) 32 32 x.sec wx hc hx' hx.sec.2 (by decide) htx)
  unfold SumRes at SW
  unfold Go.Proofs.YthccjefhlmngbaaDoor.hv at SW
  have HK := hid hk
  by_cases h0 : kc = 0
  · have t0 : ((kc : Int) == 0) = true := by simp [h0]
    rw [HK.out h0] at SW
    have n1 := neq_hv (xs := lg.o.lock) (ys := lg.o.lock) hl.o.ll hl.o.ll hl.o.lb hl.o.lb
    have g1 := guard_hv lg.o.lock lg.o.lock
    rw [decide_eq_true rfl] at n1
    unfold Go.Proofs.YthccjefhlmngbaaDoor.hv at n1 g1
    simp only [Bool.not_true] at n1
    clear hx hl ht hr hv' hk h0 rs e16 e17
    clear s e0 e1 e2 e7 e8 e10 e11
    conv => arg 2; whnf
    refine wp_region_held_drew (S := fun w' => Below w.heap.size w w') (by kernel_rfl) ((Below.refl _ _).drew) (fun hHeld => ?_)
    try simp only [List.size_toArray, List.length_cons, List.length_nil, Nat.reduceAdd, Array.replicate_succ, Array.replicate_zero, List.push_toArray, List.nil_append, List.cons_append]
    refine wpAnyH_take (i := 0) (oi := { dst := some 185, op := Op.move (Operand.tmp 17), type := 35, pos := "law.go:249", after := #[], guard := none }) (v := ?v4001) rfl (by kernel_rfl) (by kernel_rfl) (by kernel_rfl) (fun _ _ _ h => h) (Or.inl ⟨by rfl, ?hy4001⟩) hHeld ?_
    case hy4001 => (intro w hSw; (try dsimp only at hSw); go_simp; (try with_reducible rfl))
    (try simp only [Act.put, List.setIfInBounds_toArray, List.set_cons_zero, List.set_cons_succ])
    refine wpAnyH_take (i := 1) (oi := { dst := some 186, op := Op.binOp BinOp.eql 35 (Operand.tmp 185) (Operand.const (Value.int IntKind.i64 0)) 35, type := 4, pos := "law.go:249", after := #[{ on := 0, ground := Ground.data }], guard := none }) (v := ?v4002) rfl (by kernel_rfl) (by kernel_rfl) (by kernel_rfl) (fun _ _ _ h => h) (Or.inl ⟨by rfl, ?hy4002⟩) hHeld ?_
    case hy4002 => (intro w hSw; (try dsimp only at hSw); go_simp; (try with_reducible rfl))
    (try simp only [Act.put, List.setIfInBounds_toArray, List.set_cons_zero, List.set_cons_succ])
    refine wpAnyH_take (i := 2) (oi := { dst := some 187, op := Op.move (Operand.tmp 186), type := 4, pos := "law.go:249", after := #[{ on := 1, ground := Ground.data }], guard := none }) (v := ?v4003) rfl (by kernel_rfl) (by kernel_rfl) (by kernel_rfl) (fun _ _ _ h => h) (Or.inl ⟨by rfl, ?hy4003⟩) hHeld ?_
    case hy4003 => (intro w hSw; (try dsimp only at hSw); go_simp; (try with_reducible rfl))
    (try simp only [Act.put, List.setIfInBounds_toArray, List.set_cons_zero, List.set_cons_succ])
    refine wpAnyH_take (i := 3) (oi := { dst := some 188, op := Op.fieldAddr 60 (Operand.tmp 11) 7, type := 0, pos := "law.go:249", after := #[{ on := 2, ground := Ground.guard }], guard := some (2, true) }) (v := ?v4004) rfl (by kernel_rfl) (by kernel_rfl) (by kernel_rfl) (fun _ _ _ h => h) (Or.inl ⟨by rfl, ?hy4004⟩) hHeld ?_
    case hy4004 => (intro w hSw; (try dsimp only at hSw); go_simp; (try with_reducible rfl))
    (try simp only [Act.put, List.setIfInBounds_toArray, List.set_cons_zero, List.set_cons_succ])
    refine wpAnyH_take (i := 4) (oi := { dst := some 189, op := Op.slice 27 (Operand.tmp 188) none none none, type := 65, pos := "law.go:249", after := #[{ on := 3, ground := Ground.data }, { on := 2, ground := Ground.guard }], guard := some (2, true) }) (v := ?v4005) rfl (by kernel_rfl) (by kernel_rfl) (by kernel_rfl) (fun _ _ _ h => h) (Or.inl ⟨by rfl, ?hy4005⟩) hHeld ?_
    case hy4005 => (intro w hSw; (try dsimp only at hSw); go_simp; (try with_reducible rfl))
    (try simp only [Act.put, List.setIfInBounds_toArray, List.set_cons_zero, List.set_cons_succ])
    refine wpAnyH_take (i := 7) (oi := { dst := some 192, op := Op.fieldAddr 42 (Operand.tmp 16) 1, type := 0, pos := "law.go:249", after := #[{ on := 2, ground := Ground.guard }], guard := some (2, true) }) (v := ?v4006) rfl (by kernel_rfl) (by kernel_rfl) (by kernel_rfl) (fun _ _ _ h => h) (Or.inl ⟨by rfl, ?hy4006⟩) hHeld ?_
    case hy4006 => (intro w hSw; (try dsimp only at hSw); go_simp; (try with_reducible rfl))
    (try simp only [Act.put, List.setIfInBounds_toArray, List.set_cons_zero, List.set_cons_succ])
    refine wpAnyH_take (i := 8) (oi := { dst := some 193, op := Op.fieldAddr 40 (Operand.tmp 192) 4, type := 0, pos := "law.go:249", after := #[{ on := 7, ground := Ground.data }, { on := 2, ground := Ground.guard }], guard := some (2, true) }) (v := ?v4007) rfl (by kernel_rfl) (by kernel_rfl) (by kernel_rfl) (fun _ _ _ h => h) (Or.inl ⟨by rfl, ?hy4007⟩) hHeld ?_
    case hy4007 => (intro w hSw; (try dsimp only at hSw); go_simp; (try with_reducible rfl))
    (try simp only [Act.put, List.setIfInBounds_toArray, List.set_cons_zero, List.set_cons_succ])
    refine' wpAnyH_take (i := 9) (oi := { dst := some 194, op := Op.load 27 (Operand.tmp 193), type := 27, pos := "law.go:249", after := #[{ on := 8, ground := Ground.data }, { on := 2, ground := Ground.guard }], guard := some (2, true) }) (v := _) rfl (by kernel_rfl) (by kernel_rfl) (by kernel_rfl) (fun _ _ _ h => h) (yieldsIf_load_mid (by rfl) _ _ rfl KV 36 rfl (nums .u8 lg.o.lock) _ (fun _ h => range_keep h rk) un rfl hil.out) hHeld ?_
    (try simp only [Act.put, List.setIfInBounds_toArray, List.set_cons_zero, List.set_cons_succ])
    refine wpAnyH_ready (rs := [5]) (by kernel_rfl) (by simp) ?_
    refine AllReadyH.cons (o := { dst := some 190, op := Op.buildSlice 88 1 #[(0, Operand.tmp 189)], type := 88, pos := "law.go:249", after := #[{ on := 4, ground := Ground.data }, { on := 2, ground := Ground.guard }], guard := some (2, true) }) rfl (fun K hK => ?_) ?_
    go_simp; (first | refine newZ ?_ | refine newZd ?_); intro wp hp bp; have HP := hid hp; have BP := hid bp; clear hp bp
    refine hK.out _ _ (by first | exact hHeld.trans (BP.out.mono hHeld.size) | exact BP.out) (fun hHeld => ?_)
    clear hK K
    (try simp only [List.setIfInBounds_toArray, List.set_cons_zero, List.set_cons_succ])
    refine wpAnyH_ready (rs := [6]) (by kernel_rfl) (by simp) ?_
    refine AllReadyH.cons (o := { dst := some 191, op := Op.call { callee := Callee.value (Operand.func 21), args := #[Operand.tmp 190], argTypes := #[88] }, type := 27, pos := "law.go:249", after := #[{ on := 5, ground := Ground.data }, { on := 2, ground := Ground.chain }, { on := 2, ground := Ground.guard }], guard := some (2, true) }) rfl (fun K hK => ?_) ?_
    go_simp; refine (SW _ _ (gen_cell (j := 0) (row_range (L := [.slice (some ⟨R, 174, none⟩) 32 32]) HP.out) rfl) (SLs.out.below hHeld) (HT.out.below hHeld)).out.mono ?_; rintro e wt ⟨rfl, bt⟩; have BT := hid bt; clear bt
    refine hK.out _ _ (by first | exact hHeld.trans (BT.out.mono hHeld.size) | exact BT.out) (fun hHeld => ?_)
    clear hK K
    (try simp only [List.setIfInBounds_toArray, List.set_cons_zero, List.set_cons_succ])
    refine wpAnyH_take (i := 10) (oi := { dst := some 195, op := Op.binOp BinOp.neq 27 (Operand.tmp 191) (Operand.tmp 194) 27, type := 4, pos := "law.go:249", after := #[{ on := 6, ground := Ground.data }, { on := 9, ground := Ground.data }, { on := 2, ground := Ground.guard }], guard := some (2, true) }) (v := ?v4008) rfl (by kernel_rfl) (by kernel_rfl) (by kernel_rfl) (fun _ _ _ h => h) (Or.inl ⟨by rfl, ?hy4008⟩) hHeld ?_
    case hy4008 => (intro w hSw; (try dsimp only at hSw); go_simp; (try with_reducible rfl))
    (try simp only [Act.put, List.setIfInBounds_toArray, List.set_cons_zero, List.set_cons_succ])
    refine wpAnyH_take (i := 11) (oi := { dst := some 196, op := Op.pick (Operand.tmp 187) (Operand.tmp 195) (Operand.const (Value.bool false)), type := 4, pos := "law.go:249", after := #[{ on := 2, ground := Ground.data }, { on := 10, ground := Ground.data }], guard := none }) (v := ?v4009) rfl (by kernel_rfl) (by kernel_rfl) (by kernel_rfl) (fun _ _ _ h => h) (Or.inl ⟨by rfl, ?hy4009⟩) hHeld ?_
    case hy4009 => (intro w hSw; (try dsimp only at hSw); go_simp; (try with_reducible rfl))
    (try simp only [Act.put, List.setIfInBounds_toArray, List.set_cons_zero, List.set_cons_succ])
    refine wpAnyH_done (by kernel_rfl) ?_ _
    rotate_left
    exact AllReadyH.nil
    exact AllReadyH.nil
    all_goals exact ⟨rfl, ⟨rfl, rfl, rfl, rfl, rfl, rfl, rfl, rfl⟩, rfl, hHeld⟩
  · have t0 : ((kc : Int) == 0) = false := by simp [h0]
    clear hx hl ht hr hv' hk h0 rs e16 e17
    clear s e0 e1 e2 e7 e8 e10 e11
    conv => arg 2; whnf
    refine wp_region_held_drew (S := fun w' => Below w.heap.size w w') (by kernel_rfl) ((Below.refl _ _).drew) (fun hHeld => ?_)
    try simp only [List.size_toArray, List.length_cons, List.length_nil, Nat.reduceAdd, Array.replicate_succ, Array.replicate_zero, List.push_toArray, List.nil_append, List.cons_append]
    refine wpAnyH_take (i := 0) (oi := { dst := some 185, op := Op.move (Operand.tmp 17), type := 35, pos := "law.go:249", after := #[], guard := none }) (v := ?v5001) rfl (by kernel_rfl) (by kernel_rfl) (by kernel_rfl) (fun _ _ _ h => h) (Or.inl ⟨by rfl, ?hy5001⟩) hHeld ?_
    case hy5001 => (intro w hSw; (try dsimp only at hSw); go_simp; (try with_reducible rfl))
    (try simp only [Act.put, List.setIfInBounds_toArray, List.set_cons_zero, List.set_cons_succ])
    refine wpAnyH_take (i := 1) (oi := { dst := some 186, op := Op.binOp BinOp.eql 35 (Operand.tmp 185) (Operand.const (Value.int IntKind.i64 0)) 35, type := 4, pos := "law.go:249", after := #[{ on := 0, ground := Ground.data }], guard := none }) (v := ?v5002) rfl (by kernel_rfl) (by kernel_rfl) (by kernel_rfl) (fun _ _ _ h => h) (Or.inl ⟨by rfl, ?hy5002⟩) hHeld ?_
    case hy5002 => (intro w hSw; (try dsimp only at hSw); go_simp; (try with_reducible rfl))
    (try simp only [Act.put, List.setIfInBounds_toArray, List.set_cons_zero, List.set_cons_succ])
    refine wpAnyH_take (i := 2) (oi := { dst := some 187, op := Op.move (Operand.tmp 186), type := 4, pos := "law.go:249", after := #[{ on := 1, ground := Ground.data }], guard := none }) (v := ?v5003) rfl (by kernel_rfl) (by kernel_rfl) (by kernel_rfl) (fun _ _ _ h => h) (Or.inl ⟨by rfl, ?hy5003⟩) hHeld ?_
    case hy5003 => (intro w hSw; (try dsimp only at hSw); go_simp; (try with_reducible rfl))
    (try simp only [Act.put, List.setIfInBounds_toArray, List.set_cons_zero, List.set_cons_succ])
    refine wpAnyH_take (i := 3) (oi := { dst := some 188, op := Op.fieldAddr 60 (Operand.tmp 11) 7, type := 0, pos := "law.go:249", after := #[{ on := 2, ground := Ground.guard }], guard := some (2, true) }) (v := undef) rfl (by kernel_rfl) (by kernel_rfl) (by kernel_rfl) (fun _ _ _ h => h) (Or.inr ⟨by rfl, rfl⟩) hHeld ?_
    (try simp only [Act.put, List.setIfInBounds_toArray, List.set_cons_zero, List.set_cons_succ])
    refine wpAnyH_take (i := 4) (oi := { dst := some 189, op := Op.slice 27 (Operand.tmp 188) none none none, type := 65, pos := "law.go:249", after := #[{ on := 3, ground := Ground.data }, { on := 2, ground := Ground.guard }], guard := some (2, true) }) (v := undef) rfl (by kernel_rfl) (by kernel_rfl) (by kernel_rfl) (fun _ _ _ h => h) (Or.inr ⟨by rfl, rfl⟩) hHeld ?_
    (try simp only [Act.put, List.setIfInBounds_toArray, List.set_cons_zero, List.set_cons_succ])
    refine wpAnyH_take (i := 5) (oi := { dst := some 190, op := Op.buildSlice 88 1 #[(0, Operand.tmp 189)], type := 88, pos := "law.go:249", after := #[{ on := 4, ground := Ground.data }, { on := 2, ground := Ground.guard }], guard := some (2, true) }) (v := undef) rfl (by kernel_rfl) (by kernel_rfl) (by kernel_rfl) (fun _ _ _ h => h) (Or.inr ⟨by rfl, rfl⟩) hHeld ?_
    (try simp only [Act.put, List.setIfInBounds_toArray, List.set_cons_zero, List.set_cons_succ])
    refine wpAnyH_take (i := 6) (oi := { dst := some 191, op := Op.call { callee := Callee.value (Operand.func 21), args := #[Operand.tmp 190], argTypes := #[88] }, type := 27, pos := "law.go:249", after := #[{ on := 5, ground := Ground.data }, { on := 2, ground := Ground.chain }, { on := 2, ground := Ground.guard }], guard := some (2, true) }) (v := undef) rfl (by kernel_rfl) (by kernel_rfl) (by kernel_rfl) (fun _ _ _ h => h) (Or.inr ⟨by rfl, rfl⟩) hHeld ?_
    (try simp only [Act.put, List.setIfInBounds_toArray, List.set_cons_zero, List.set_cons_succ])
    refine wpAnyH_take (i := 7) (oi := { dst := some 192, op := Op.fieldAddr 42 (Operand.tmp 16) 1, type := 0, pos := "law.go:249", after := #[{ on := 2, ground := Ground.guard }], guard := some (2, true) }) (v := undef) rfl (by kernel_rfl) (by kernel_rfl) (by kernel_rfl) (fun _ _ _ h => h) (Or.inr ⟨by rfl, rfl⟩) hHeld ?_
    (try simp only [Act.put, List.setIfInBounds_toArray, List.set_cons_zero, List.set_cons_succ])
    refine wpAnyH_take (i := 8) (oi := { dst := some 193, op := Op.fieldAddr 40 (Operand.tmp 192) 4, type := 0, pos := "law.go:249", after := #[{ on := 7, ground := Ground.data }, { on := 2, ground := Ground.guard }], guard := some (2, true) }) (v := undef) rfl (by kernel_rfl) (by kernel_rfl) (by kernel_rfl) (fun _ _ _ h => h) (Or.inr ⟨by rfl, rfl⟩) hHeld ?_
    (try simp only [Act.put, List.setIfInBounds_toArray, List.set_cons_zero, List.set_cons_succ])
    refine wpAnyH_take (i := 9) (oi := { dst := some 194, op := Op.load 27 (Operand.tmp 193), type := 27, pos := "law.go:249", after := #[{ on := 8, ground := Ground.data }, { on := 2, ground := Ground.guard }], guard := some (2, true) }) (v := undef) rfl (by kernel_rfl) (by kernel_rfl) (by kernel_rfl) (fun _ _ _ h => h) (Or.inr ⟨by rfl, rfl⟩) hHeld ?_
    (try simp only [Act.put, List.setIfInBounds_toArray, List.set_cons_zero, List.set_cons_succ])
    refine wpAnyH_take (i := 10) (oi := { dst := some 195, op := Op.binOp BinOp.neq 27 (Operand.tmp 191) (Operand.tmp 194) 27, type := 4, pos := "law.go:249", after := #[{ on := 6, ground := Ground.data }, { on := 9, ground := Ground.data }, { on := 2, ground := Ground.guard }], guard := some (2, true) }) (v := undef) rfl (by kernel_rfl) (by kernel_rfl) (by kernel_rfl) (fun _ _ _ h => h) (Or.inr ⟨by rfl, rfl⟩) hHeld ?_
    (try simp only [Act.put, List.setIfInBounds_toArray, List.set_cons_zero, List.set_cons_succ])
    refine wpAnyH_take (i := 11) (oi := { dst := some 196, op := Op.pick (Operand.tmp 187) (Operand.tmp 195) (Operand.const (Value.bool false)), type := 4, pos := "law.go:249", after := #[{ on := 2, ground := Ground.data }, { on := 10, ground := Ground.data }], guard := none }) (v := ?v5004) rfl (by kernel_rfl) (by kernel_rfl) (by kernel_rfl) (fun _ _ _ h => h) (Or.inl ⟨by rfl, ?hy5004⟩) hHeld ?_
    case hy5004 => (intro w hSw; (try dsimp only at hSw); go_simp; (try with_reducible rfl))
    (try simp only [Act.put, List.setIfInBounds_toArray, List.set_cons_zero, List.set_cons_succ])
    refine wpAnyH_done (by kernel_rfl) ?_ _
    rotate_left
    all_goals exact ⟨rfl, ⟨rfl, rfl, rfl, rfl, rfl, rfl, rfl, rfl⟩, rfl, hHeld⟩
end Go.Proofs.YthccjefhlmngbaaDoor
