/- TableRuns in pieces: what stands between them. -/
import Derived.Test.YtibjkpejbihcpaaTabP
import Derived.Test.YtibjkpejbihcpaaTabN
import Derived.Test.YtibjkpejbihcpaaTabV
import Derived.Test.YtibjkpejbihcpaaTabF
import Derived.Test.YtibjkpejbihcpaaPick
namespace Go.Proofs.Ytibjkpejbihcpaa
open Go.RowKit

/-- a slot -/
def tm (T : Array Value) (k : Nat) : Value := T.getD k undef
theorem tm_all {n : Nat} {T : Array Value} (h : T.size = n) : T = ((List.range n).map (tm T)).toArray := by
  subst h
  apply Array.ext_getElem?
  intro k
  rw [show (List.map (tm T) (List.range T.size)).toArray[k]? = (List.map (tm T) (List.range T.size))[k]? from List.getElem?_toArray .., List.getElem?_map]
  by_cases hk : k < T.size
  · rw [List.getElem?_range hk, Option.map_some, Array.getElem?_eq_getElem hk]
    simp [tm, hk]
  · rw [Array.getElem?_eq_none (by omega), List.getElem?_eq_none (by simp; omega)]
    rfl
set_option maxRecDepth 1000000 in
theorem frameT {T : Array Value} (h : T.size = 397) : T = List.toArray (tm T 0 :: tm T 1 :: tm T 2 :: tm T 3 :: tm T 4 :: tm T 5 :: tm T 6 :: tm T 7 :: tm T 8 :: tm T 9 :: tm T 10 :: tm T 11 :: tm T 12 :: tm T 13 :: tm T 14 :: tm T 15 :: tm T 16 :: tm T 17 :: tm T 18 :: tm T 19 :: tm T 20 :: tm T 21 :: tm T 22 :: tm T 23 :: tm T 24 :: tm T 25 :: tm T 26 :: tm T 27 :: tm T 28 :: tm T 29 :: tm T 30 :: tm T 31 :: tm T 32 :: tm T 33 :: tm T 34 :: tm T 35 :: tm T 36 :: tm T 37 :: tm T 38 :: tm T 39 :: tm T 40 :: tm T 41 :: tm T 42 :: tm T 43 :: tm T 44 :: tm T 45 :: tm T 46 :: tm T 47 :: tm T 48 :: tm T 49 :: tm T 50 :: tm T 51 :: tm T 52 :: tm T 53 :: tm T 54 :: tm T 55 :: tm T 56 :: tm T 57 :: tm T 58 :: tm T 59 :: tm T 60 :: tm T 61 :: tm T 62 :: tm T 63 :: tm T 64 :: tm T 65 :: tm T 66 :: tm T 67 :: tm T 68 :: tm T 69 :: tm T 70 :: tm T 71 :: tm T 72 :: tm T 73 :: tm T 74 :: tm T 75 :: tm T 76 :: tm T 77 :: tm T 78 :: tm T 79 :: tm T 80 :: tm T 81 :: tm T 82 :: tm T 83 :: tm T 84 :: tm T 85 :: tm T 86 :: tm T 87 :: tm T 88 :: tm T 89 :: tm T 90 :: tm T 91 :: tm T 92 :: tm T 93 :: tm T 94 :: tm T 95 :: tm T 96 :: tm T 97 :: tm T 98 :: tm T 99 :: tm T 100 :: tm T 101 :: tm T 102 :: tm T 103 :: tm T 104 :: tm T 105 :: tm T 106 :: tm T 107 :: tm T 108 :: tm T 109 :: tm T 110 :: tm T 111 :: tm T 112 :: tm T 113 :: tm T 114 :: tm T 115 :: tm T 116 :: tm T 117 :: tm T 118 :: tm T 119 :: tm T 120 :: tm T 121 :: tm T 122 :: tm T 123 :: tm T 124 :: tm T 125 :: tm T 126 :: tm T 127 :: tm T 128 :: tm T 129 :: tm T 130 :: tm T 131 :: tm T 132 :: tm T 133 :: tm T 134 :: tm T 135 :: tm T 136 :: tm T 137 :: tm T 138 :: tm T 139 :: tm T 140 :: tm T 141 :: tm T 142 :: tm T 143 :: tm T 144 :: tm T 145 :: tm T 146 :: tm T 147 :: tm T 148 :: tm T 149 :: tm T 150 :: tm T 151 :: tm T 152 :: tm T 153 :: tm T 154 :: tm T 155 :: tm T 156 :: tm T 157 :: tm T 158 :: tm T 159 :: tm T 160 :: tm T 161 :: tm T 162 :: tm T 163 :: tm T 164 :: tm T 165 :: tm T 166 :: tm T 167 :: tm T 168 :: tm T 169 :: tm T 170 :: tm T 171 :: tm T 172 :: tm T 173 :: tm T 174 :: tm T 175 :: tm T 176 :: tm T 177 :: tm T 178 :: tm T 179 :: tm T 180 :: tm T 181 :: tm T 182 :: tm T 183 :: tm T 184 :: tm T 185 :: tm T 186 :: tm T 187 :: tm T 188 :: tm T 189 :: tm T 190 :: tm T 191 :: tm T 192 :: tm T 193 :: tm T 194 :: tm T 195 :: tm T 196 :: tm T 197 :: tm T 198 :: tm T 199 :: tm T 200 :: tm T 201 :: tm T 202 :: tm T 203 :: tm T 204 :: tm T 205 :: tm T 206 :: tm T 207 :: tm T 208 :: tm T 209 :: tm T 210 :: tm T 211 :: tm T 212 :: tm T 213 :: tm T 214 :: tm T 215 :: tm T 216 :: tm T 217 :: tm T 218 :: tm T 219 :: tm T 220 :: tm T 221 :: tm T 222 :: tm T 223 :: tm T 224 :: tm T 225 :: tm T 226 :: tm T 227 :: tm T 228 :: tm T 229 :: tm T 230 :: tm T 231 :: tm T 232 :: tm T 233 :: tm T 234 :: tm T 235 :: tm T 236 :: tm T 237 :: tm T 238 :: tm T 239 :: tm T 240 :: tm T 241 :: tm T 242 :: tm T 243 :: tm T 244 :: tm T 245 :: tm T 246 :: tm T 247 :: tm T 248 :: tm T 249 :: tm T 250 :: tm T 251 :: tm T 252 :: tm T 253 :: tm T 254 :: tm T 255 :: tm T 256 :: tm T 257 :: tm T 258 :: tm T 259 :: tm T 260 :: tm T 261 :: tm T 262 :: tm T 263 :: tm T 264 :: tm T 265 :: tm T 266 :: tm T 267 :: tm T 268 :: tm T 269 :: tm T 270 :: tm T 271 :: tm T 272 :: tm T 273 :: tm T 274 :: tm T 275 :: tm T 276 :: tm T 277 :: tm T 278 :: tm T 279 :: tm T 280 :: tm T 281 :: tm T 282 :: tm T 283 :: tm T 284 :: tm T 285 :: tm T 286 :: tm T 287 :: tm T 288 :: tm T 289 :: tm T 290 :: tm T 291 :: tm T 292 :: tm T 293 :: tm T 294 :: tm T 295 :: tm T 296 :: tm T 297 :: tm T 298 :: tm T 299 :: tm T 300 :: tm T 301 :: tm T 302 :: tm T 303 :: tm T 304 :: tm T 305 :: tm T 306 :: tm T 307 :: tm T 308 :: tm T 309 :: tm T 310 :: tm T 311 :: tm T 312 :: tm T 313 :: tm T 314 :: tm T 315 :: tm T 316 :: tm T 317 :: tm T 318 :: tm T 319 :: tm T 320 :: tm T 321 :: tm T 322 :: tm T 323 :: tm T 324 :: tm T 325 :: tm T 326 :: tm T 327 :: tm T 328 :: tm T 329 :: tm T 330 :: tm T 331 :: tm T 332 :: tm T 333 :: tm T 334 :: tm T 335 :: tm T 336 :: tm T 337 :: tm T 338 :: tm T 339 :: tm T 340 :: tm T 341 :: tm T 342 :: tm T 343 :: tm T 344 :: tm T 345 :: tm T 346 :: tm T 347 :: tm T 348 :: tm T 349 :: tm T 350 :: tm T 351 :: tm T 352 :: tm T 353 :: tm T 354 :: tm T 355 :: tm T 356 :: tm T 357 :: tm T 358 :: tm T 359 :: tm T 360 :: tm T 361 :: tm T 362 :: tm T 363 :: tm T 364 :: tm T 365 :: tm T 366 :: tm T 367 :: tm T 368 :: tm T 369 :: tm T 370 :: tm T 371 :: tm T 372 :: tm T 373 :: tm T 374 :: tm T 375 :: tm T 376 :: tm T 377 :: tm T 378 :: tm T 379 :: tm T 380 :: tm T 381 :: tm T 382 :: tm T 383 :: tm T 384 :: tm T 385 :: tm T 386 :: tm T 387 :: tm T 388 :: tm T 389 :: tm T 390 :: tm T 391 :: tm T 392 :: tm T 393 :: tm T 394 :: tm T 395 :: tm T 396 :: []) := (tm_all h).trans (by kernel_rfl)
/-- the code of the law from region n on -/
noncomputable def runC (n : Nat) : Code := (Try.f7.body.bind (pickR n)).getD .skip
/-- between two steps, and within a step -/
structure SitM (w0 : World) (B tb mb : Nat) (a : Option Addr) (l cap : Nat) (ls : List Stp) (i : Nat) (M : QM) (n : Nat) (L : List Quo) (T : Array Value) (w : World) : Prop where
  size : T.size = 397
  t0 : tm T 0 = .slice a l cap
  t3 : tm T 3 = .pointer (some ⟨tb, 0, none⟩)
  t5 : tm T 5 = .int .i64 (i : Int)
  tab : TabAt w tb mb M n
  tl : TL M n L
  own : w.ownsRow B 43 71 (tm T 4) n (L.flatMap Quo.cells)
  bel : Below w0.heap.size w0 w
  lo : w0.heap.size ≤ mb ∧ w0.heap.size ≤ B ∧ mb < B ∧ tb < B ∧ B ≤ w.heap.size
  few : n ≤ i + 1 ∧ i < 80
/-- ahead of a step's arm -/
structure ArmI (w0 : World) (B tb mb : Nat) (a : Option Addr) (l cap : Nat) (ls : List Stp) (i : Nat) (M : QM) (n : Nat) (L : List Quo) (x : Stp) (at' : Int) (q : Quo) (G R : Nat) (T : Array Value) (w : World) : Prop where
  sit : SitM w0 B tb mb a l cap ls i M n L T w
  less : n ≤ i
  t6 : tm T 6 = .pointer (some ⟨G, 0, none⟩)
  s : w.heap[G]? = some (.cells x.cells.toArray 38 (0, 0))
  xok : x.ok
  t7 : tm T 7 = .int .i64 at'
  at' : AtL M L x.no at' q
  qok : q.ok
  t9 : tm T 9 = .pointer (some ⟨R, 0, none⟩)
  q : w.heap[R]? = some (.cells q.cells.toArray 43 (0, 0))
  t10 : tm T 10 = .int .i64 0
  t11 : tm T 11 = .int .i64 0
  gr : B ≤ G ∧ B ≤ R ∧ G ≠ R ∧ ∀ g, Value.ownBlock (tm T 4) = some g → g ≠ G ∧ g ≠ R
/-- behind it -/
def ArmO (w0 : World) (B tb mb : Nat) (a : Option Addr) (l cap : Nat) (ls : List Stp) (i : Nat) (e : Exit) (A : Act) (w : World) : Prop :=
  e = .normal ∧ A.defers = [] ∧ ∃ (M : QM) (n : Nat) (L : List Quo) (k : Nat), SitM w0 B tb mb a l cap ls i M n L A.tmps w ∧ tm A.tmps 10 = .int .i64 (k : Int) ∧ tm A.tmps 11 = .int .i64 (k : Int)
theorem Stp.no_at {x : Stp} (h : x.ok) : (x.cells.drop 1).take 32 = nums .u8 x.no := by
  unfold Stp.cells
  rw [List.drop_succ_cons, List.drop_zero, List.append_assoc, List.take_left' (by rw [nums_length, h.nl])]
theorem Stp.id_at {x : Stp} (h : x.ok) : (x.cells.drop 33).take 32 = nums .u8 x.id := by
  unfold Stp.cells
  rw [List.drop_succ_cons, List.append_assoc, List.drop_left' (by rw [nums_length, h.nl]), List.take_left' (by rw [nums_length, h.il])]
theorem Stp.rate_at {x : Stp} (h : x.ok) : (x.cells.drop 68).take 2 = [.int .u64 (x.rc : Int), .int .u64 (x.ru : Int)] := by
  unfold Stp.cells
  rw [List.drop_succ_cons, List.append_assoc, ← List.append_assoc, show (67 : Nat) = 64 + 3 from rfl, ← List.drop_drop, List.drop_left' (by rw [List.length_append, nums_length, nums_length, h.nl, h.il])]
  rfl
theorem okSet {L : List Quo} {q : Quo} {j : Nat} (h : ∀ p ∈ L, p.ok) (hq : q.ok) : ∀ p ∈ L.set j q, p.ok := by
  intro p hp
  rcases List.mem_or_eq_of_mem_set hp with hp | rfl
  · exact h p hp
  · exact hq
theorem Quo.no_at {x : Quo} (h : x.ok) : (x.cells.drop 0).take 32 = nums .u8 x.no := by
  unfold Quo.cells
  rw [List.drop_zero, List.append_assoc, List.take_left' (by rw [nums_length, h.nl])]
theorem Quo.no_front (q : Quo) : q.cells = nums .u8 q.no ++ (nums .u8 q.id ++ q.tail) := by unfold Quo.cells; rw [List.append_assoc]
theorem front_get {α : Type} {l r : List α} {k : Nat} {v : α} (h : l[k]? = some v) : (l ++ r)[k]? = some v := by
  rw [List.getElem?_append_left (List.getElem?_eq_some_iff.1 h).1]; exact h
theorem own_slice {w : World} {B : Nat} {e : TypeId} {size : Nat} {v : Value} {n : Nat} {xs : List Value} (h : w.ownsRow B e size v n xs) (hn : 0 < n) : ∃ g c, v = .slice (some ⟨g, 0, none⟩) n c := by
  rcases h.2 with ⟨rfl, rfl⟩ | ⟨g, cap, cur, rfl, _⟩
  · omega
  · exact ⟨g, cap, rfl⟩
theorem TL.at {M : QM} {n : Nat} {L : List Quo} {x y : List Nat} {q : Quo} (h : TL (updM M x q) n L) (e : x = y) : TL (updM M y q) n L := e ▸ h
theorem TabAt.under {w w' : World} {tb mb n B : Nat} {M : QM} (h : TabAt w tb mb M n) (hb : Below B w w') (h1 : tb < B) (h2 : mb < B) : TabAt w' tb mb M n := ⟨by rw [hb.cell h1]; exact h.cell, h.map.low hb h2, h.ok, h.small, h.ne⟩
theorem wpList_build4 {P : Program} {ops : Array Oper} {rest : List Oper} {o : Oper} {a : Act} {w : World} {Q : Exit → Act → World → Prop} (hg : o.guard = none) (t : TypeId) (x0 x1 x2 x3 : Operand) (ho : o.op = .build t #[(0, x0), (1, x1), (2, x2), (3, x3)])
    {v0 v1 v2 v3 : Value} {cells : Array Value} (hb : P.built t [(0, v0), (1, v1), (2, v2), (3, v3)] = some cells) (h0 : a.eval x0 = v0) (h1 : a.eval x1 = v1) (h2 : a.eval x2 = v2) (h3 : a.eval x3 = v3)
    (h : wpList P ops Q rest (a.put o.dst (.agg cells)) w) : wpList P ops Q (o :: rest) a w := by
  have hv : ((#[(0, x0), (1, x1), (2, x2), (3, x3)] : Array (Nat × Operand)).map fun (i, x) => (i, a.eval x)).toList = [(0, v0), (1, v1), (2, v2), (3, v3)] := by simp [h0, h1, h2, h3]
  exact wpList_build hg t _ ho (by rw [hv, hb]; rfl) (by rw [hv, hb]; exact h)
theorem SitM.go {w0 : World} {B tb mb : Nat} {a : Option Addr} {l cap : Nat} {ls : List Stp} {i : Nat} {M M' : QM} {n n' : Nat} {L L' : List Quo} {T T' : Array Value} {w w' : World} (h : SitM w0 B tb mb a l cap ls i M n L T w)
    (hs : T'.size = 397) (t0 : tm T' 0 = .slice a l cap) (t3 : tm T' 3 = .pointer (some ⟨tb, 0, none⟩)) (t5 : tm T' 5 = .int .i64 (i : Int)) (ht : TabAt w' tb mb M' n') (hl : TL M' n' L') (ho : w'.ownsRow B 43 71 (tm T' 4) n' (L'.flatMap Quo.cells)) (hb : Below w0.heap.size w w') (hf : n' ≤ i + 1) :
    SitM w0 B tb mb a l cap ls i M' n' L' T' w' := ⟨hs, t0, t3, t5, ht, hl, ho, h.bel.trans hb, ⟨h.lo.1, h.lo.2.1, h.lo.2.2.1, h.lo.2.2.2.1, Nat.le_trans h.lo.2.2.2.2 hb.size⟩, hf, h.few.2⟩
theorem SitM.row_far {w0 : World} {B tb mb : Nat} {a : Option Addr} {l cap : Nat} {ls : List Stp} {i : Nat} {M : QM} {n : Nat} {L : List Quo} {T : Array Value} {w w' : World} (h : SitM w0 B tb mb a l cap ls i M n L T w) (hf : Far mb w w') : w'.ownsRow B 43 71 (tm T 4) n (L.flatMap Quo.cells) :=
  Far.own h.own hf (fun e => by have := (h.own.lt _ e).1; have := h.lo; omega)
theorem ArmI.stored {w0 : World} {B tb mb : Nat} {a : Option Addr} {l cap : Nat} {ls : List Stp} {i : Nat} {M : QM} {n : Nat} {L : List Quo} {x : Stp} {at' : Int} {q q' : Quo} {G R : Nat} {T T' : Array Value} {w w1 w' : World} {j g c : Nat} (h : ArmI w0 B tb mb a l cap ls i M n L x at' q G R T w)
    (hj : L[j]? = some q) (hno : q.no = x.no) (T1 : TabAt w1 tb mb (updM M x.no q') n) (FR : Far mb w w1) (own1 : w1.ownsRow B 43 71 (.slice (some ⟨g, 0, none⟩) n c) n (L.flatMap Quo.cells)) (hq : q'.ok) (hn : q'.no = q.no) (hr : q'.st = 1 → ¬ (q'.rc = 0 ∨ q'.ru = 0)) (hs : q'.st = 0 ∨ q'.st = 1 ∨ q'.st = 2)
    (o1 : w'.ownsRow B 43 71 (.slice (some ⟨g, 0, none⟩) n c) n ((L.set j q').flatMap Quo.cells)) (fw : Far g w1 w') (hz : T'.size = 397) (t0 : tm T' 0 = .slice a l cap) (t3 : tm T' 3 = .pointer (some ⟨tb, 0, none⟩)) (t4 : tm T' 4 = .slice (some ⟨g, 0, none⟩) n c) (t5 : tm T' 5 = .int .i64 (i : Int))
    (t10 : tm T' 10 = .int .i64 0) (t11 : tm T' 11 = .int .i64 0) : ArmO w0 B tb mb a l cap ls i .normal ⟨T', []⟩ w' := by
  have lo := h.sit.lo
  have hg := (own1.lt g rfl).1
  have hl2 := (h.sit.tl.set (q' := q') hj hn hq hr hs).at hno
  refine ⟨rfl, rfl, updM M x.no q', n, L.set j q', 0, ?_, t10, t11⟩
  refine h.sit.go hz t0 t3 t5 (TabAt.far (H := g) T1 fw (by omega) (by omega)) hl2 (by rw [t4]; exact o1) ?_ h.sit.few.1
  exact (FR.below lo.1 h.sit.bel.size).trans (fw.below (by omega) (Nat.le_trans h.sit.bel.size FR.size))
end Go.Proofs.Ytibjkpejbihcpaa
