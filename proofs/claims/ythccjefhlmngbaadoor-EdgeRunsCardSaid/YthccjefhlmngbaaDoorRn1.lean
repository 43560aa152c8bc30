/- Appends at an operation, and at a step of a region that draws its order. -/
import Derived.Test.YthccjefhlmngbaaDoorMem
import Derived.Maps.AppendAt
import Derived.Deep.AppendLies
import Derived.Deep.RegionHeld3
import Derived.Test.YthccjefhlmngbaaDoorTb
import Derived.Test.YthccjefhlmngbaaDoorEg4
import Derived.Test.YthccjefhlmngbaaDoorStp21
import Derived.Test.YthccjefhlmngbaaDoorKq
import Derived.Test.YthccjefhlmngbaaDoorEg2
import Derived.Test.YthccjefhlmngbaaDoorHn
namespace Go.Proofs.YthccjefhlmngbaaDoor
open Go.RowKit

/-- 'append(s, x...)' at an operation: what the new value owns, what stays as it was -/
theorem wp_cat {P : Program} {w : World} {o : Oper} {a : Act} {K : Act → World → Prop} {Q : Exit → Act → World → Prop} (s x : Operand) (t : TypeId)
    (ho : o.op = .call { callee := .builtin .append, args := #[s, x], argTypes := #[t, t] })
    {e : TypeId} {size bytes : Nat} {z : Value} (ty : SliceTy P t e size bytes z) (B : Nat) {v : Value} {n : Nat} {xs : List Value} (hown : w.ownsRow B e size v n xs) (hs : a.eval s = v)
    {ad : Option Addr} {m c : Nat} {news : List Value} (hx : a.eval x = .slice ad m c) (hrd : Rd w size ad m c news) (h1 : ∀ u ∈ news, u.oneCell' = true) (hn : (n + m) * bytes ≤ 140737488355328) (hn' : n + m ≤ maxLen) (hB : B ≤ w.heap.size)
    (h : ∀ v' w', w'.ownsRow B e size v' (n + m) (xs ++ news) → w.grownBy w' v.ownBlock → (v'.ownBlock = v.ownBlock ∨ v'.ownBlock = some w.heap.size) → K (a.put o.dst v') w') : o.wp P a w K Q := by
  obtain ⟨i, ht, hi, hz, hsz, hb⟩ := ty.ex
  obtain ⟨r1, r2, r3, r4, b, off, ha, hc⟩ := hrd
  cases ad with
  | none =>
    have hc0 := r4 rfl
    subst hc0
    obtain rfl : m = 0 := by omega
    have hnil : news = [] := List.eq_nil_of_length_eq_zero (by simpa using r1)
    subst hnil
    have hrun := run_append_owned_none (P := P) (w := w) B t o.type e i size ht hi v n xs hown
    unfold Oper.wp
    simp [execOp, ho, resolve, invoke, builtin, hs, hx, hrun, Result.andThen]
    exact h v w (by simpa using hown) ⟨rfl, rfl, rfl, Nat.le_refl _, fun _ _ _ => rfl⟩ (.inl rfl)
  | some ad =>
    obtain ⟨v', w', hr, h2, h3, _, h5⟩ := run_append_own_at (P := P) w B t o.type e i z size bytes ht hi hz hsz hb ty.zs ty.pos v n xs hown ad m c news r1 (by
      intro j u hu
      have hm : 0 < m := by
        rcases Nat.eq_zero_or_pos m with h0 | h0
        · subst h0
          have hnil : news = [] := List.eq_nil_of_length_eq_zero (by simpa using r1)
          subst hnil
          simp at hu
        · exact h0
      have := ha hm
      simp only [Option.some.injEq] at this
      subst this
      have hadd : (⟨b, off, none⟩ : Addr).add j = ⟨b, off + j, none⟩ := by unfold Addr.add; split <;> simp_all
      rw [hadd]
      exact hc j u hu) h1 hn' hn hB
    unfold Oper.wp execOp
    simp only [ho, resolve, invoke, builtin, Sem.run_bind, Sem.run_pure, Result.andThen_ok, List.map_toArray, List.map_cons, List.map_nil, hs, hx, hr]
    exact h v' w' h2 h3 h5
/-- the same at a step of a region that draws its order -/
theorem step_cat {P : Program} {w : World} {ops : Array Oper} {o : Oper} {a : Act} {K : Act → World → Prop} {Q : Exit → Act → World → Prop} {E : Prop} (hgd : o.guard = none) (s x : Operand) (t : TypeId)
    (ho : o.op = .call { callee := .builtin .append, args := #[s, x], argTypes := #[t, t] })
    {e : TypeId} {size bytes : Nat} {z : Value} (ty : SliceTy P t e size bytes z) (B : Nat) {v : Value} {n : Nat} {xs : List Value} (hown : w.ownsRow B e size v n xs) (hs : a.eval s = v)
    {ad : Option Addr} {m c : Nat} {news : List Value} (hx : a.eval x = .slice ad m c) (hrd : Rd w size ad m c news) (h1 : ∀ u ∈ news, u.oneCell' = true) (hn : (n + m) * bytes ≤ 140737488355328) (hn' : n + m ≤ maxLen) (hB : B ≤ w.heap.size)
    (h : ∀ v' w', w'.ownsRow B e size v' (n + m) (xs ++ news) → w.grownBy w' v.ownBlock → (v'.ownBlock = v.ownBlock ∨ v'.ownBlock = some w.heap.size) → K (a.put o.dst v') w') :
    if Region.wanted o (yielded ops a.tmps) = true then Oper.wp P o a w K Q else E := by
  have hw : Region.wanted o (yielded ops a.tmps) = true := by simp [Region.wanted, hgd]
  rw [if_pos hw]
  exact wp_cat s x t ho ty B hown hs hx hrd h1 hn hn' hB h
theorem rd_new1 (Y : World) (v : Value) (T : TypeId) : Rd (Y.alloc (.cells #[v] T)) 1 (some ⟨Y.heap.size, 0, none⟩) 1 1 [v] := by
  refine ⟨rfl, Nat.le_refl _, by decide, (fun e => by cases e), Y.heap.size, 0, fun _ => rfl, fun j u hu => ?_⟩
  match j, hu with
  | 0, hu =>
    simp at hu
    subst hu
    rw [cell_of_row _ _ _ _ _ (0, 0) (heap_alloc_new Y _)]; rfl
  | j + 1, hu => simp at hu
end Go.Proofs.YthccjefhlmngbaaDoor

/- Quotes can be compared. -/
namespace Go.Proofs.YthccjefhlmngbaaDoor
open Go.RowKit

theorem keyQuo : KeyT 48 3 := ⟨by kernel_rfl, by kernel_rfl, by kernel_rfl, by decide, by kernel_rfl⟩
theorem kv_quo {q : Quo} (h : q.ok) : KV 48 (.agg q.cells.toArray) := by
  refine KV.mk keyQuo.wide (by kernel_rfl) (by rw [Quo.len h]; kernel_rfl) (fun d => ?_)
  have l1 : (nums .u8 q.no).length = 32 := by rw [nums_length, h.nl]
  have l2 : (nums .u8 q.id).length = 32 := by rw [nums_length, h.il]
  have e30 : Tryd.prog.cellsOf 27 = 32 := by kernel_rfl
  have e4 : Tryd.prog.cellsOf 4 = 1 := by kernel_rfl
  have e22 : Tryd.prog.cellsOf 28 = 1 := by kernel_rfl
  have e3 : Tryd.prog.cellsOf 3 = 1 := by kernel_rfl
  have e24 : Tryd.prog.cellsOf 30 = 2 := by kernel_rfl
  have d0 : (q.cells.drop 0).take 32 = nums .u8 q.no := by
    unfold Quo.cells
    rw [List.drop_zero, List.append_assoc, List.take_left' l1]
  have d1 : (q.cells.drop 32).take 32 = nums .u8 q.id := by
    unfold Quo.cells
    rw [List.append_assoc, List.drop_left' l1, List.take_left' l2]
  have dt : ∀ k n, (q.cells.drop (64 + k)).take n = (q.tail.drop k).take n := by
    intro k n
    unfold Quo.cells
    rw [← List.drop_drop, List.drop_left' (by rw [List.length_append, l1, l2])]
  refine KL.struct Tryd.underlying48 (by rw [Quo.len h]; kernel_rfl) (by kernel_rfl) fun f hf => ?_
  simp only [List.mem_cons, List.not_mem_nil, or_false] at hf
  rcases hf with rfl | rfl | rfl | rfl | rfl | rfl | rfl | rfl
  · show KL (d + 7) 27 ((q.cells.drop 0).take (Tryd.prog.cellsOf 27))
    rw [e30, d0]
    exact KL.bytes (d := d + 5) Tryd.underlying27 e30 h.nl h.nb
  · show KL (d + 7) 27 ((q.cells.drop 32).take (Tryd.prog.cellsOf 27))
    rw [e30, d1]
    exact KL.bytes (d := d + 5) Tryd.underlying27 e30 h.il h.ib
  · show KL (d + 7) 4 ((q.cells.drop (64 + 0)).take (Tryd.prog.cellsOf 4))
    rw [e4, dt]
    exact KL.bool (d := d + 6) Tryd.underlying4
  · show KL (d + 7) 28 ((q.cells.drop (64 + 1)).take (Tryd.prog.cellsOf 28))
    rw [e22, dt]
    exact KL.int (d := d + 6) Tryd.underlying28 (u64_wf h.mb)
  · show KL (d + 7) 3 ((q.cells.drop (64 + 2)).take (Tryd.prog.cellsOf 3))
    rw [e3, dt]
    exact KL.int (d := d + 6) Tryd.underlying3 h.sw
  · show KL (d + 7) 30 ((q.cells.drop (64 + 3)).take (Tryd.prog.cellsOf 30))
    rw [e24, dt]
    refine KL.struct (d := d + 6) Tryd.underlying30 (by rw [e24]; rfl) (by kernel_rfl) fun f hf => ?_
    simp only [List.mem_cons, List.not_mem_nil, or_false] at hf
    rcases hf with rfl | rfl
    · show KL (d + 6) 28 ((([.int .u64 (q.rc : Int), .int .u64 (q.ru : Int)] : List Value).drop 0).take (Tryd.prog.cellsOf 28))
      rw [e22]
      exact KL.int (d := d + 5) Tryd.underlying28 (u64_wf h.cb)
    · show KL (d + 6) 28 ((([.int .u64 (q.rc : Int), .int .u64 (q.ru : Int)] : List Value).drop 1).take (Tryd.prog.cellsOf 28))
      rw [e22]
      exact KL.int (d := d + 5) Tryd.underlying28 (u64_wf h.ub)
  · show KL (d + 7) 3 ((q.cells.drop (64 + 5)).take (Tryd.prog.cellsOf 3))
    rw [e3, dt]
    exact KL.int (d := d + 6) Tryd.underlying3 h.tw
  · show KL (d + 7) 28 ((q.cells.drop (64 + 6)).take (Tryd.prog.cellsOf 28))
    rw [e22, dt]
    exact KL.int (d := d + 6) Tryd.underlying28 (u64_wf h.sb)
/-- a quote is itself -/
theorem quo_self {q : Quo} (h : q.ok) : ∀ w : World, (binOp .neq 48 (.agg q.cells.toArray) (.agg q.cells.toArray)).run Tryd.prog w = .ok (.bool false) w := fun w => by
  have := KeyT.neq keyQuo (kv_quo h) (kv_quo h) (p := True) (by simp) w
  simpa using this
theorem quo_guard (q : Quo) : ∀ (op : BinOp) (x y : Operand) (w : World), (eqGuard op 48 x y (.agg q.cells.toArray) (.agg q.cells.toArray)).run Tryd.prog w = .ok () w := KeyT.guarded keyQuo _ _
end Go.Proofs.YthccjefhlmngbaaDoor

/- EdgeRuns: frames, and what a round finds. Printed by wip/rna.py. -/
namespace Go.Proofs.YthccjefhlmngbaaDoor
open Go.RowKit

set_option maxRecDepth 1000000 in
theorem frameR {T : Array Value} (h : T.size = 558) : T = List.toArray (tm T 0 :: tm T 1 :: tm T 2 :: tm T 3 :: tm T 4 :: tm T 5 :: tm T 6 :: tm T 7 :: tm T 8 :: tm T 9 :: tm T 10 :: tm T 11 :: tm T 12 :: tm T 13 :: tm T 14 :: tm T 15 :: tm T 16 :: tm T 17 :: tm T 18 :: tm T 19 :: tm T 20 :: tm T 21 :: tm T 22 :: tm T 23 :: tm T 24 :: tm T 25 :: tm T 26 :: tm T 27 :: tm T 28 :: tm T 29 :: tm T 30 :: tm T 31 :: tm T 32 :: tm T 33 :: tm T 34 :: tm T 35 :: tm T 36 :: tm T 37 :: tm T 38 :: tm T 39 :: tm T 40 :: tm T 41 :: tm T 42 :: tm T 43 :: tm T 44 :: tm T 45 :: tm T 46 :: tm T 47 :: tm T 48 :: tm T 49 :: tm T 50 :: tm T 51 :: tm T 52 :: tm T 53 :: tm T 54 :: tm T 55 :: tm T 56 :: tm T 57 :: tm T 58 :: tm T 59 :: tm T 60 :: tm T 61 :: tm T 62 :: tm T 63 :: tm T 64 :: tm T 65 :: tm T 66 :: tm T 67 :: tm T 68 :: tm T 69 :: tm T 70 :: tm T 71 :: tm T 72 :: tm T 73 :: tm T 74 :: tm T 75 :: tm T 76 :: tm T 77 :: tm T 78 :: tm T 79 :: tm T 80 :: tm T 81 :: tm T 82 :: tm T 83 :: tm T 84 :: tm T 85 :: tm T 86 :: tm T 87 :: tm T 88 :: tm T 89 :: tm T 90 :: tm T 91 :: tm T 92 :: tm T 93 :: tm T 94 :: tm T 95 :: tm T 96 :: tm T 97 :: tm T 98 :: tm T 99 :: tm T 100 :: tm T 101 :: tm T 102 :: tm T 103 :: tm T 104 :: tm T 105 :: tm T 106 :: tm T 107 :: tm T 108 :: tm T 109 :: tm T 110 :: tm T 111 :: tm T 112 :: tm T 113 :: tm T 114 :: tm T 115 :: tm T 116 :: tm T 117 :: tm T 118 :: tm T 119 :: tm T 120 :: tm T 121 :: tm T 122 :: tm T 123 :: tm T 124 :: tm T 125 :: tm T 126 :: tm T 127 :: tm T 128 :: tm T 129 :: tm T 130 :: tm T 131 :: tm T 132 :: tm T 133 :: tm T 134 :: tm T 135 :: tm T 136 :: tm T 137 :: tm T 138 :: tm T 139 :: tm T 140 :: tm T 141 :: tm T 142 :: tm T 143 :: tm T 144 :: tm T 145 :: tm T 146 :: tm T 147 :: tm T 148 :: tm T 149 :: tm T 150 :: tm T 151 :: tm T 152 :: tm T 153 :: tm T 154 :: tm T 155 :: tm T 156 :: tm T 157 :: tm T 158 :: tm T 159 :: tm T 160 :: tm T 161 :: tm T 162 :: tm T 163 :: tm T 164 :: tm T 165 :: tm T 166 :: tm T 167 :: tm T 168 :: tm T 169 :: tm T 170 :: tm T 171 :: tm T 172 :: tm T 173 :: tm T 174 :: tm T 175 :: tm T 176 :: tm T 177 :: tm T 178 :: tm T 179 :: tm T 180 :: tm T 181 :: tm T 182 :: tm T 183 :: tm T 184 :: tm T 185 :: tm T 186 :: tm T 187 :: tm T 188 :: tm T 189 :: tm T 190 :: tm T 191 :: tm T 192 :: tm T 193 :: tm T 194 :: tm T 195 :: tm T 196 :: tm T 197 :: tm T 198 :: tm T 199 :: tm T 200 :: tm T 201 :: tm T 202 :: tm T 203 :: tm T 204 :: tm T 205 :: tm T 206 :: tm T 207 :: tm T 208 :: tm T 209 :: tm T 210 :: tm T 211 :: tm T 212 :: tm T 213 :: tm T 214 :: tm T 215 :: tm T 216 :: tm T 217 :: tm T 218 :: tm T 219 :: tm T 220 :: tm T 221 :: tm T 222 :: tm T 223 :: tm T 224 :: tm T 225 :: tm T 226 :: tm T 227 :: tm T 228 :: tm T 229 :: tm T 230 :: tm T 231 :: tm T 232 :: tm T 233 :: tm T 234 :: tm T 235 :: tm T 236 :: tm T 237 :: tm T 238 :: tm T 239 :: tm T 240 :: tm T 241 :: tm T 242 :: tm T 243 :: tm T 244 :: tm T 245 :: tm T 246 :: tm T 247 :: tm T 248 :: tm T 249 :: tm T 250 :: tm T 251 :: tm T 252 :: tm T 253 :: tm T 254 :: tm T 255 :: tm T 256 :: tm T 257 :: tm T 258 :: tm T 259 :: tm T 260 :: tm T 261 :: tm T 262 :: tm T 263 :: tm T 264 :: tm T 265 :: tm T 266 :: tm T 267 :: tm T 268 :: tm T 269 :: tm T 270 :: tm T 271 :: tm T 272 :: tm T 273 :: tm T 274 :: tm T 275 :: tm T 276 :: tm T 277 :: tm T 278 :: tm T 279 :: tm T 280 :: tm T 281 :: tm T 282 :: tm T 283 :: tm T 284 :: tm T 285 :: tm T 286 :: tm T 287 :: tm T 288 :: tm T 289 :: tm T 290 :: tm T 291 :: tm T 292 :: tm T 293 :: tm T 294 :: tm T 295 :: tm T 296 :: tm T 297 :: tm T 298 :: tm T 299 :: tm T 300 :: tm T 301 :: tm T 302 :: tm T 303 :: tm T 304 :: tm T 305 :: tm T 306 :: tm T 307 :: tm T 308 :: tm T 309 :: tm T 310 :: tm T 311 :: tm T 312 :: tm T 313 :: tm T 314 :: tm T 315 :: tm T 316 :: tm T 317 :: tm T 318 :: tm T 319 :: tm T 320 :: tm T 321 :: tm T 322 :: tm T 323 :: tm T 324 :: tm T 325 :: tm T 326 :: tm T 327 :: tm T 328 :: tm T 329 :: tm T 330 :: tm T 331 :: tm T 332 :: tm T 333 :: tm T 334 :: tm T 335 :: tm T 336 :: tm T 337 :: tm T 338 :: tm T 339 :: tm T 340 :: tm T 341 :: tm T 342 :: tm T 343 :: tm T 344 :: tm T 345 :: tm T 346 :: tm T 347 :: tm T 348 :: tm T 349 :: tm T 350 :: tm T 351 :: tm T 352 :: tm T 353 :: tm T 354 :: tm T 355 :: tm T 356 :: tm T 357 :: tm T 358 :: tm T 359 :: tm T 360 :: tm T 361 :: tm T 362 :: tm T 363 :: tm T 364 :: tm T 365 :: tm T 366 :: tm T 367 :: tm T 368 :: tm T 369 :: tm T 370 :: tm T 371 :: tm T 372 :: tm T 373 :: tm T 374 :: tm T 375 :: tm T 376 :: tm T 377 :: tm T 378 :: tm T 379 :: tm T 380 :: tm T 381 :: tm T 382 :: tm T 383 :: tm T 384 :: tm T 385 :: tm T 386 :: tm T 387 :: tm T 388 :: tm T 389 :: tm T 390 :: tm T 391 :: tm T 392 :: tm T 393 :: tm T 394 :: tm T 395 :: tm T 396 :: tm T 397 :: tm T 398 :: tm T 399 :: tm T 400 :: tm T 401 :: tm T 402 :: tm T 403 :: tm T 404 :: tm T 405 :: tm T 406 :: tm T 407 :: tm T 408 :: tm T 409 :: tm T 410 :: tm T 411 :: tm T 412 :: tm T 413 :: tm T 414 :: tm T 415 :: tm T 416 :: tm T 417 :: tm T 418 :: tm T 419 :: tm T 420 :: tm T 421 :: tm T 422 :: tm T 423 :: tm T 424 :: tm T 425 :: tm T 426 :: tm T 427 :: tm T 428 :: tm T 429 :: tm T 430 :: tm T 431 :: tm T 432 :: tm T 433 :: tm T 434 :: tm T 435 :: tm T 436 :: tm T 437 :: tm T 438 :: tm T 439 :: tm T 440 :: tm T 441 :: tm T 442 :: tm T 443 :: tm T 444 :: tm T 445 :: tm T 446 :: tm T 447 :: tm T 448 :: tm T 449 :: tm T 450 :: tm T 451 :: tm T 452 :: tm T 453 :: tm T 454 :: tm T 455 :: tm T 456 :: tm T 457 :: tm T 458 :: tm T 459 :: tm T 460 :: tm T 461 :: tm T 462 :: tm T 463 :: tm T 464 :: tm T 465 :: tm T 466 :: tm T 467 :: tm T 468 :: tm T 469 :: tm T 470 :: tm T 471 :: tm T 472 :: tm T 473 :: tm T 474 :: tm T 475 :: tm T 476 :: tm T 477 :: tm T 478 :: tm T 479 :: tm T 480 :: tm T 481 :: tm T 482 :: tm T 483 :: tm T 484 :: tm T 485 :: tm T 486 :: tm T 487 :: tm T 488 :: tm T 489 :: tm T 490 :: tm T 491 :: tm T 492 :: tm T 493 :: tm T 494 :: tm T 495 :: tm T 496 :: tm T 497 :: tm T 498 :: tm T 499 :: tm T 500 :: tm T 501 :: tm T 502 :: tm T 503 :: tm T 504 :: tm T 505 :: tm T 506 :: tm T 507 :: tm T 508 :: tm T 509 :: tm T 510 :: tm T 511 :: tm T 512 :: tm T 513 :: tm T 514 :: tm T 515 :: tm T 516 :: tm T 517 :: tm T 518 :: tm T 519 :: tm T 520 :: tm T 521 :: tm T 522 :: tm T 523 :: tm T 524 :: tm T 525 :: tm T 526 :: tm T 527 :: tm T 528 :: tm T 529 :: tm T 530 :: tm T 531 :: tm T 532 :: tm T 533 :: tm T 534 :: tm T 535 :: tm T 536 :: tm T 537 :: tm T 538 :: tm T 539 :: tm T 540 :: tm T 541 :: tm T 542 :: tm T 543 :: tm T 544 :: tm T 545 :: tm T 546 :: tm T 547 :: tm T 548 :: tm T 549 :: tm T 550 :: tm T 551 :: tm T 552 :: tm T 553 :: tm T 554 :: tm T 555 :: tm T 556 :: tm T 557 :: []) := (tm_all h).trans (by kernel_rfl)
/-- the code from a region on -/
noncomputable def rnP (n : Nat) : Code := (Tryd.f5.body.bind (pickR n)).getD .skip
/-- the edge at L and M, the model's table at Ma, the law's own list La -/
structure RunJ (w0 w : World) (eb tb mb t2 m2 : Nat) (dl : Int) (B nq : Nat) (v : Value) (L : List Fw) (M : QM) (va : Value) (La : List Fw) (Ma : QM) : Prop where
  ses : Ses w0.heap.size w0 w eb tb mb dl B v L M nq
  mod : TabAt w t2 m2 Ma nq
  own : w.ownsRow B 62 204 va La.length (La.flatMap Fw.cells)
  ne : ∀ g, va.ownBlock = some g → v.ownBlock ≠ some g
  df : (m2 ≠ eb ∧ m2 ≠ tb ∧ m2 ≠ mb) ∧ (t2 ≠ eb ∧ t2 ≠ mb) ∧ (t2 < B ∧ m2 < B) ∧ w0.heap.size ≤ m2
/-- a block of the law's own -/
def HeldR (w : World) (eb mb m2 B : Nat) (v va : Value) (g : Nat) (x : Obj) : Prop := Held w eb mb v g x ∧ g ≠ m2 ∧ va.ownBlock ≠ some g ∧ B ≤ g
section
variable {w0 w w' : World} {eb tb mb t2 m2 : Nat} {dl : Int} {B nq : Nat} {v v' : Value} {L L' : List Fw} {M M' : QM} {va va' : Value} {La La' : List Fw} {Ma Ma' : QM} {g : Nat} {x y : Obj}
theorem RunJ.below (h : RunJ w0 w eb tb mb t2 m2 dl B nq v L M va La Ma) (b : Below w.heap.size w w') : RunJ w0 w' eb tb mb t2 m2 dl B nq v L M va La Ma :=
  ⟨h.ses.below b, h.mod.below b, (Keep.of (S := fun _ => False) b).own h.own (fun _ _ hh => hh), h.ne, h.df⟩
theorem RunJ.edge (h : RunJ w0 w eb tb mb t2 m2 dl B nq v L M va La Ma) (s : Shop w' eb tb mb dl B v' L' M' nq) (k : Keep (ShopS eb mb v) w w') (y : Newer w v v') : RunJ w0 w' eb tb mb t2 m2 dl B nq v' L' M' va La Ma := by
  have hlt := h.ses.s.e.lt
  have hlm := h.ses.s.lt
  have own := h.ses.s.e.own
  refine ⟨h.ses.call s k, h.mod.keep k ?_ ?_, k.own h.own ?_, ?_, h.df⟩
  · rintro (e | e | e)
    · exact h.df.2.1.1 e
    · exact h.df.2.1.2 e
    · have := (own.lt _ e).1; have := h.df.2.2.1.1; omega
  · rintro (e | e | e)
    · exact h.df.1.1 e
    · exact h.df.1.2.2 e
    · have := (own.lt _ e).1; have := h.df.2.2.1.2; omega
  · rintro g hg (e | e | e)
    · have := (h.own.lt _ hg).1; omega
    · have := (h.own.lt _ hg).1; omega
    · exact h.ne g hg e
  · intro g hg e
    rcases y with y | y
    · exact h.ne g hg (y ▸ e)
    · have := y g e
      have := (h.own.lt _ hg).2
      omega
theorem RunJ.model (h : RunJ w0 w eb tb mb t2 m2 dl B nq v L M va La Ma) (t : TabAt w' t2 m2 Ma' nq) (f : Far m2 w w') : RunJ w0 w' eb tb mb t2 m2 dl B nq v L M va La Ma' := by
  have hlm := h.ses.s.lt
  have s := h.ses.s
  have df := h.df
  refine ⟨⟨⟨⟨heap_far s.e.cell f (fun e => df.1.1 e.symm), Far.own s.e.own f (fun e => by have := (s.e.own.lt _ e).1; omega), s.e.ok, s.e.few, s.e.lt⟩, s.t.far f (fun e => df.1.2.1 e.symm) (fun e => df.1.2.2 e.symm), s.ne, s.lt.1, s.lt.2.1, Nat.le_trans s.lt.2.2 f.size⟩, h.ses.b.trans (f.below df.2.2.2 (Nat.le_trans h.ses.le.2.2 s.lt.2.2)), h.ses.le⟩, t, Far.own h.own f (fun e => by have := (h.own.lt _ e).1; omega), h.ne, h.df⟩
theorem RunJ.row (h : RunJ w0 w eb tb mb t2 m2 dl B nq v L M va La Ma) (o : w'.ownsRow B 62 204 va' La'.length (La'.flatMap Fw.cells)) (k : Keep (fun i => va.ownBlock = some i) w w') (y : va'.ownBlock = va.ownBlock ∨ ∀ g, va'.ownBlock = some g → w.heap.size ≤ g) : RunJ w0 w' eb tb mb t2 m2 dl B nq v L M va' La' Ma := by
  have s := h.ses.s
  have hlm := s.lt
  have hel := s.e.lt
  have df := h.df
  have nl : ∀ i, i < B → ¬ va.ownBlock = some i := fun i hi e => by have := (h.own.lt _ e).1; omega
  refine ⟨⟨⟨⟨k.heap s.e.cell (nl _ hel), k.own s.e.own (fun g hg e => h.ne g e hg), s.e.ok, s.e.few, s.e.lt⟩, s.t.keep k (nl _ hlm.1) (nl _ hlm.2.1), s.ne, s.lt.1, s.lt.2.1, Nat.le_trans s.lt.2.2 k.size⟩, h.ses.b.trans (k.below (fun i hi => by have := (h.own.lt _ hi).1; have := h.ses.le.2.2; omega) (Nat.le_trans h.ses.le.2.2 s.lt.2.2)), h.ses.le⟩, h.mod.keep k (nl _ df.2.2.1.1) (nl _ df.2.2.1.2), o, ?_, h.df⟩
  intro g hg e
  rcases y with y | y
  · exact h.ne g (y ▸ hg) e
  · have := y g hg
    have := (s.e.own.lt _ e).2
    omega
/-- a store into a block of the law's own -/
theorem RunJ.far (h : RunJ w0 w eb tb mb t2 m2 dl B nq v L M va La Ma) (hg : HeldR w eb mb m2 B v va g x) (f : Far g w w') : RunJ w0 w' eb tb mb t2 m2 dl B nq v L M va La Ma := by
  have hlm := h.ses.s.lt
  have df := h.df
  have := hg.2.2.2
  exact ⟨h.ses.far f hg.2.2.2 hg.1.2.2.2, h.mod.far f (by omega) (by omega), Far.own h.own f hg.2.2.1, h.ne, h.df⟩
theorem HeldR.below (h : HeldR w eb mb m2 B v va g x) (b : Below w.heap.size w w') : HeldR w' eb mb m2 B v va g x := ⟨h.1.below b, h.2⟩
theorem HeldR.edge (h : HeldR w eb mb m2 B v va g x) (k : Keep (ShopS eb mb v) w w') (y : Newer w v v') : HeldR w' eb mb m2 B v' va g x := ⟨h.1.call k y, h.2⟩
theorem HeldR.model (h : HeldR w eb mb m2 B v va g x) (f : Far m2 w w') : HeldR w' eb mb m2 B v va g x := ⟨h.1.far f h.2.1, h.2⟩
theorem HeldR.low (h : HeldR w eb mb m2 B v va g x) : g < w.heap.size := h.1.low
theorem HeldR.row (h : HeldR w eb mb m2 B v va g x) (k : Keep (fun i => va.ownBlock = some i) w w') (y : va'.ownBlock = va.ownBlock ∨ ∀ g, va'.ownBlock = some g → w.heap.size ≤ g) : HeldR w' eb mb m2 B v va' g x :=
  ⟨⟨k.heap h.1.1 h.2.2.1, h.1.2⟩, h.2.1, (fun e => y.elim (fun y => h.2.2.1 (y ▸ e)) (fun y => by have := y g e; have := h.low; omega)), h.2.2.2⟩
theorem HeldR.far {k : Nat} (h : HeldR w eb mb m2 B v va g x) (f : Far k w w') (hk : g ≠ k) : HeldR w' eb mb m2 B v va g x := ⟨h.1.far f hk, h.2⟩
theorem HeldR.set (h : HeldR w eb mb m2 B v va g x) (hx : w'.heap[g]? = some y) : HeldR w' eb mb m2 B v va g y := ⟨⟨hx, h.1.2⟩, h.2⟩
theorem HeldR.new (h : RunJ w0 w eb tb mb t2 m2 dl B nq v L M va La Ma) (hx : w'.heap[g]? = some x) (hg : w.heap.size ≤ g) : HeldR w' eb mb m2 B v va g x :=
  ⟨Held.new h.ses hx hg, (fun e => by have := h.ses.s.lt; have := h.df; omega), (fun e => by have := (h.own.lt _ e).2; omega), (by have := h.ses.s.lt; omega)⟩
end
/-- what a step asks for -/
def keyI (x : Ed) : Int × Int := if x.k = 0 then (x.inn.line, x.inn.o.no) else (x.line, x.n)
def keyO (x : Ed) : Int × Int := if x.k = 0 then (x.out.line, x.out.o.no) else (x.line, x.n)
/-- the slots that last -/
structure RSl (dl : Int) (qv sv : Value) (tb t2 eb : Nat) (va : Value) (k : Nat) (T : Array Value) : Prop where
  size : T.size = 558
  t0 : tm T 0 = .int .i64 dl
  t1 : tm T 1 = qv
  t02 : tm T 2 = sv
  t7 : tm T 7 = .pointer (some ⟨tb, 0, none⟩)
  t8 : tm T 8 = .pointer (some ⟨t2, 0, none⟩)
  t9 : tm T 9 = .pointer (some ⟨eb, 0, none⟩)
  t17 : tm T 17 = va
  t18 : tm T 18 = .int .i64 (k : Int)
/-- what an arm finds -/
structure ArmI (w0 w : World) (eb tb mb t2 m2 : Nat) (dl : Int) (B nq : Nat) (v : Value) (L : List Fw) (M : QM) (va : Value) (qv sv : Value) (k R X Y : Nat) (i o : Int) (x : Ed) (T : Array Value) : Prop where
  s : RSl dl qv sv tb t2 eb va k T
  t19 : tm T 19 = .pointer (some ⟨R, 0, none⟩)
  t20 : tm T 20 = .int .i64 i
  t21 : tm T 21 = .int .i64 o
  t28 : tm T 28 = .int .i64 0
  t29 : tm T 29 = .int .i64 0
  t30 : tm T 30 = .pointer (some ⟨X, 0, none⟩)
  t31 : tm T 31 = .pointer (some ⟨Y, 0, none⟩)
  run : RunJ w0 w eb tb mb t2 m2 dl B nq v L M va L M
  few : L.length ≤ k
  k60 : k < 60
  r : HeldR w eb mb m2 B v va R (.cells x.cells.toArray 60 (0, 0))
  hx : HeldR w eb mb m2 B v va X (.cells lz.cells.toArray 42 (0, 0))
  hy : HeldR w eb mb m2 B v va Y (.cells lz.cells.toArray 42 (0, 0))
  ne : X ≠ Y ∧ R ≠ X ∧ R ≠ Y
  ok : x.ok
  ii : IdxAt L (hitF (keyI x).1 (keyI x).2 false) i
  io : IdxAt L (hitF (keyO x).1 (keyO x).2 true) o
/-- what an arm leaves -/
def ArmO (w0 : World) (eb tb mb t2 m2 : Nat) (dl : Int) (B nq : Nat) (qv sv : Value) (k : Nat) : Exit → Act → World → Prop
  | .normal, A, w => A.defers = [] ∧ ∃ v va L M c lg X Y, RSl dl qv sv tb t2 eb va k A.tmps ∧ tm A.tmps 28 = .int .i64 c ∧ tm A.tmps 29 = .int .i64 c ∧ tm A.tmps 30 = .pointer (some ⟨X, 0, none⟩) ∧ tm A.tmps 31 = .pointer (some ⟨Y, 0, none⟩) ∧
      RunJ w0 w eb tb mb t2 m2 dl B nq v L M va L M ∧ L.length ≤ k + 1 ∧ lg.ok ∧ w.heap[X]? = some (.cells (Lg.cells lg).toArray 42 (0, 0)) ∧ w.heap[Y]? = some (.cells (Lg.cells lg).toArray 42 (0, 0))
  | _, _, _ => False
/-- what a round finds -/
def RndI (w0 : World) (eb tb mb t2 m2 : Nat) (dl : Int) (B nq : Nat) (qv sv : Value) (k : Nat) (T : Array Value) (w : World) : Prop :=
  ∃ v va L M, RSl dl qv sv tb t2 eb va k T ∧ RunJ w0 w eb tb mb t2 m2 dl B nq v L M va L M ∧ L.length ≤ k
def RndO (w0 : World) (eb tb mb t2 m2 : Nat) (dl : Int) (B nq : Nat) (qv sv : Value) (k : Nat) : Exit → Act → World → Prop
  | .normal, A, w => A.defers = [] ∧ ∃ v va L M, RSl dl qv sv tb t2 eb va k A.tmps ∧ RunJ w0 w eb tb mb t2 m2 dl B nq v L M va L M ∧ L.length ≤ k + 1
  | _, _, _ => False
theorem IdxAt.miss {L : List Fw} {p : Fw → Bool} {r : Int} (h : IdxAt L p r) (hr : r < 0) : ∀ f ∈ L, p f = false := by
  rcases h with ⟨_, h⟩ | ⟨j, f, rfl, _⟩
  · exact h
  · omega
theorem IdxAt.hit {L : List Fw} {p : Fw → Bool} {r : Int} (h : IdxAt L p r) (hr : ¬ r < 0) : ∃ (j : Nat) (f : Fw), r = (j : Int) ∧ FirstF L p j f := by
  rcases h with ⟨rfl, _⟩ | ⟨j, f, rfl, h⟩
  · exact absurd (by decide) hr
  · exact ⟨j, f, rfl, h⟩
theorem FirstF.one {L : List Fw} {p : Fw → Bool} {j i : Nat} {f g : Fw} (h : FirstF L p j f) (k : FirstF L p i g) : j = i ∧ f = g := by
  have : j = i := by
    rcases Nat.lt_trichotomy j i with hl | rfl | hl
    · exact absurd (k.2.2 j f hl h.1) (by rw [h.2.1]; decide)
    · rfl
    · exact absurd (h.2.2 i g hl k.1) (by rw [k.2.1]; decide)
  subst this
  exact ⟨rfl, Option.some.inj (h.1.symm.trans k.1)⟩
theorem FirstF.no {L : List Fw} {p : Fw → Bool} {j : Nat} {f : Fw} (h : FirstF L p j f) (hn : ∀ f ∈ L, p f = false) : False := by
  have := hn f (List.mem_of_getElem? h.1)
  rw [h.2.1] at this
  cases this
end Go.Proofs.YthccjefhlmngbaaDoor

/- EdgeRuns: the search in the law's own list. -/
namespace Go.Proofs.YthccjefhlmngbaaDoor
open Go.RowKit

theorem IdxAt.snoc {L : List Fw} {p : Fw → Bool} {r : Int} {j : Nat} {f : Fw} (h : IdxAt (L.take j) p r) (hj : L[j]? = some f) : IdxAt (L.take (j + 1)) p (if r < 0 ∧ p f = true then (j : Int) else r) := by
  have hl := (List.getElem?_eq_some_iff.1 hj).1
  have ht : L.take (j + 1) = L.take j ++ [f] := by rw [List.take_add_one, hj]; rfl
  have len : (L.take j).length = j := by rw [List.length_take]; omega
  have old : ∀ m g, m < j → (L.take (j + 1))[m]? = some g → (L.take j)[m]? = some g := by
    intro m g hm hg
    rw [ht, List.getElem?_append_left (by omega)] at hg
    exact hg
  have new : (L.take (j + 1))[j]? = some f := by rw [ht, List.getElem?_append_right (by omega), len, Nat.sub_self]; rfl
  rcases h with ⟨rfl, h⟩ | ⟨i, g, rfl, h1, h2, h3⟩
  · by_cases hp : p f = true
    · rw [if_pos ⟨by decide, hp⟩]
      exact .inr ⟨j, f, rfl, new, hp, fun m g hm hg => h g (List.mem_of_getElem? (old m g hm hg))⟩
    · rw [if_neg (fun e => hp e.2)]
      refine .inl ⟨rfl, fun g hg => ?_⟩
      rw [ht] at hg
      rcases List.mem_append.1 hg with hg | hg
      · exact h g hg
      · rw [List.mem_singleton.1 hg]; simpa using hp
  · rw [if_neg (fun e => by omega)]
    have hi := (List.getElem?_eq_some_iff.1 h1).1
    rw [len] at hi
    exact .inr ⟨i, g, rfl, by rw [ht, List.getElem?_append_left (by omega)]; exact h1, h2, fun m x hm hx => h3 m x hm (old m x (by omega) hx)⟩
/-- the search's frame -/
structure SchT (dl : Int) (qv sv : Value) (tb t2 eb : Nat) (aa : Option Addr) (n ac k R j F : Nat) (i o a b c d : Int) (T : Array Value) : Prop where
  s : RSl dl qv sv tb t2 eb (.slice aa n ac) k T
  t19 : tm T 19 = .pointer (some ⟨R, 0, none⟩)
  t20 : tm T 20 = .int .i64 i
  t21 : tm T 21 = .int .i64 o
  t22 : tm T 22 = .int .i64 (j : Int)
  t23 : tm T 23 = .pointer (some ⟨F, 0, none⟩)
  t24 : tm T 24 = .int .i64 a
  t25 : tm T 25 = .int .i64 b
  t26 : tm T 26 = .int .i64 c
  t27 : tm T 27 = .int .i64 d
  t134 : tm T 134 = .slice aa n ac
  t135 : tm T 135 = .int .i64 (n : Int)
  t136 : tm T 136 = .int .i64 (j : Int)
structure SchL (dl : Int) (qv sv : Value) (tb t2 eb : Nat) (aa : Option Addr) (n ac k R j : Nat) (i o : Int) (T : Array Value) : Prop where
  s : RSl dl qv sv tb t2 eb (.slice aa n ac) k T
  t19 : tm T 19 = .pointer (some ⟨R, 0, none⟩)
  t20 : tm T 20 = .int .i64 i
  t21 : tm T 21 = .int .i64 o
  t134 : tm T 134 = .slice aa n ac
  t135 : tm T 135 = .int .i64 (n : Int)
  t136 : tm T 136 = .int .i64 (j : Int)
/-- what the search leaves -/
def SchO (dl : Int) (qv sv : Value) (tb t2 eb : Nat) (va : Value) (k R : Nat) (L : List Fw) (x : Ed) (w : World) : Exit → Act → World → Prop
  | .normal, A, w' => A.defers = [] ∧ RSl dl qv sv tb t2 eb va k A.tmps ∧ tm A.tmps 19 = .pointer (some ⟨R, 0, none⟩) ∧ (∃ i o, tm A.tmps 20 = .int .i64 i ∧ tm A.tmps 21 = .int .i64 o ∧
      IdxAt L (hitF (keyI x).1 (keyI x).2 false) i ∧ IdxAt L (hitF (keyO x).1 (keyO x).2 true) o) ∧ Below w.heap.size w w'
  | _, _, _ => False
def SchR (dl : Int) (qv sv : Value) (tb t2 eb : Nat) (aa : Option Addr) (n ac k R : Nat) (L : List Fw) (x : Ed) (w : World) (A : Act) (wr : World) : Prop :=
  ∃ j : Nat, ∃ i o : Int, A.defers = [] ∧ j ≤ n ∧ SchL dl qv sv tb t2 eb aa n ac k R j i o A.tmps ∧ IdxAt (L.take j) (hitF (keyI x).1 (keyI x).2 false) i ∧ IdxAt (L.take j) (hitF (keyO x).1 (keyO x).2 true) o ∧ Below w.heap.size w wr
set_option maxRecDepth 1000000 in
set_option maxHeartbeats 16000000 in
theorem search {dl : Int} {qv sv : Value} {tb t2 eb : Nat} {va : Value} {k R : Nat} {L : List Fw} {x : Ed} {T : Array Value} {w : World} {B : Nat} (s : RSl dl qv sv tb t2 eb va k T) (e19 : tm T 19 = .pointer (some ⟨R, 0, none⟩)) (e20 : tm T 20 = .int .i64 (-1)) (e21 : tm T 21 = .int .i64 (-1))
    (hr : w.heap[R]? = some (.cells x.cells.toArray 60 (0, 0))) (hx : x.ok) (own : w.ownsRow B 62 204 va L.length (L.flatMap Fw.cells)) (lok : ∀ f ∈ L, f.ok) (few : L.length ≤ 60) :
    (headC (rnP 22)).wp Tryd.prog (SchO dl qv sv tb t2 eb va k R L x w) ⟨T, []⟩ w := by
  obtain ⟨aa, ac, rfl, rd⟩ := Rd.of_owns own
  have FW := hid (show Fwds w aa L.length ac L from ⟨rfl, rd, lok⟩)
  have FEW := hid few
  have HR := hid hr
  have XOK := hid hx
  have un := Tryd.underlying62
  have ZF := zeroF
  rw [frameR s.size, s.t0, s.t1, s.t02, s.t7, s.t8, s.t9, s.t17, s.t18, e19, e20, e21]
  clear s e19 e20 e21 own rd lok few hr hx
  conv => arg 2; whnf
  go_upto_region 23 with (fail)
  refine wp_loop (SchR dl qv sv tb t2 eb aa L.length ac k R L x w) (fun A _ => 60 - (intOf (tm A.tmps 136)).toNat)
    ⟨0, -1, -1, rfl, by omega, ⟨⟨rfl, rfl, rfl, rfl, rfl, rfl, rfl, rfl, rfl⟩, rfl, rfl, rfl, rfl, rfl, rfl⟩, .inl ⟨rfl, by simp⟩, .inl ⟨rfl, by simp⟩, Below.refl _ _⟩ ?_
  rintro ⟨T, df⟩ wr ⟨j, i, o, hd, hj, hT, hi, ho, hb⟩
  dsimp only at hd hT
  subst hd
  have II := hid hi
  have IO := hid ho
  have BB := hid hb
  have LJ := hid hj
  show Code.wp _ _ _ ⟨T, []⟩ wr
  rw [frameR hT.s.size, hT.s.t0, hT.s.t1, hT.s.t02, hT.s.t7, hT.s.t8, hT.s.t9, hT.s.t17, hT.s.t18, hT.t19, hT.t20, hT.t21, hT.t134, hT.t135, hT.t136]
  have E136 := hid hT.t136
  clear hT hi ho hb
  by_cases hlt : j < L.length
  case neg =>
    have t1 : decide (j < L.length) = false := decide_eq_false hlt
    obtain rfl : j = L.length := by omega
    have i1 := II.out
    have i2 := IO.out
    rw [List.take_of_length_le (Nat.le_refl _)] at i1 i2
    clear II IO
    go_wp2_with (fail)
    exact ⟨rfl, ⟨rfl, rfl, rfl, rfl, rfl, rfl, rfl, rfl, rfl⟩, rfl, ⟨i, o, rfl, rfl, i1, i2⟩, BB.out⟩
  have t1 : decide (j < L.length) = true := decide_eq_true hlt
  obtain ⟨b, off, f, ha, hfj, row, fok⟩ := (FW.out.below BB.out).get hlt
  subst ha
  have FOK := hid fok
  have fil := hid (infoFl fok)
  have fia := hid (infoFa fok)
  have fiz := hid (zF_as fok)
  have fio := hid (all_oneCell_toArray (Fw.one f))
  have FJ := hid hfj
  have LT := hid hlt
  clear hfj fok hlt hj
  go_upto_region 24 with (fail)
  go_upto_region 25 with (first | with_reducible refine wpList_ld b (off + j * 204) f.cells row un fil rfl rfl ?_ | with_reducible refine wpList_sr wr.heap.size f.cells.toArray _ zF fia fiz fio rfl rfl (heap_alloc_new wr _) ?_)
  have LD := laid wr zF f.cells.toArray 62
  generalize World.setRow (wr.alloc (.cells zF 62)) wr.heap.size f.cells.toArray = w7 at LD ⊢
  have HF := hid LD.1
  have B7 := hid (bstep BB.out LD.2)
  obtain ⟨F, hF⟩ : ∃ F, F = wr.heap.size := ⟨_, rfl⟩
  rw [← hF] at HF ⊢
  clear LD hF BB row fil fia fiz fio t1
  have r7 := row_range (heap_keep HR.out B7.out)
  have c0 : w7.cell? ⟨R, 0, none⟩ = some (.int .i64 x.k) := x.hasK.one r7
  have c172 : w7.cell? ⟨R, 172, none⟩ = some (.int .i64 x.line) := (Ed.hasLine XOK.out).one r7
  have c173 : w7.cell? ⟨R, 173, none⟩ = some (.int .i64 x.n) := (Ed.hasN XOK.out).one r7
  dsimp only [Act.put]
  go_quiet (fail)
  go_upto_region 26 with (fail)
  go_quiet (fail)
  go_upto_region 27 with (fail)
  rename_i K30 a30 K27 a27
  have A30 := hid a30
  have A27 := hid a27
  clear a30 a27
  obtain ⟨ka, hka⟩ : ∃ ka, ka = (keyI x).1 := ⟨_, rfl⟩
  obtain ⟨kb, hkb⟩ : ∃ kb, kb = (keyI x).2 := ⟨_, rfl⟩
  obtain ⟨kc, hkc⟩ : ∃ kc, kc = (keyO x).1 := ⟨_, rfl⟩
  obtain ⟨kd, hkd⟩ : ∃ kd, kd = (keyO x).2 := ⟨_, rfl⟩
  have HKI := hid (And.intro hka hkb)
  have HKO := hid (And.intro hkc hkd)
  have I1 := hid (show IdxAt (L.take (j + 1)) (hitF ka kb false) (if i < 0 ∧ hitF ka kb false f = true then (j : Int) else i) from by rw [hka, hkb]; exact II.out.snoc FJ.out)
  have O1 := hid (show IdxAt (L.take (j + 1)) (hitF kc kd true) (if o < 0 ∧ hitF kc kd true f = true then (j : Int) else o) from by rw [hkc, hkd]; exact IO.out.snoc FJ.out)
  clear hka hkb hkc hkd
  have MID : ∀ (T : Array Value) (wz : World), wz.heap[F]? = some (.cells f.cells.toArray 62 (0, 0)) → Below w.heap.size w wz → SchT dl qv sv tb t2 eb (some ⟨b, off, none⟩) L.length ac k R j F i o ka kb kc kd T → K30 ⟨T, []⟩ wz := by
    intro T wz hz bz s
    have HF := hid hz
    have B7 := hid bz
    clear hz bz
    refine A30.out _ _ ?_
    rw [frameR s.s.size, s.s.t0, s.s.t1, s.s.t02, s.s.t7, s.s.t8, s.s.t9, s.s.t17, s.s.t18, s.t19, s.t20, s.t21, s.t22, s.t23, s.t24, s.t25, s.t26, s.t27, s.t134, s.t135, s.t136]
    clear s A30 A27 c0 c172 c173 r7
    go_upto_region 30 with (fail)
    rename_i K32 a32 K30' a30'
    have A32 := hid a32
    have A30' := hid a30'
    clear a32 a30'
    have MID2 : ∀ (T : Array Value) (i' : Int), SchT dl qv sv tb t2 eb (some ⟨b, off, none⟩) L.length ac k R j F i' o ka kb kc kd T → IdxAt (L.take (j + 1)) (hitF ka kb false) i' → K32 ⟨T, []⟩ wz := by
      intro T i' s hi'
      have I2 := hid hi'
      refine A32.out _ _ ?_
      rw [frameR s.s.size, s.s.t0, s.s.t1, s.s.t02, s.s.t7, s.s.t8, s.s.t9, s.s.t17, s.s.t18, s.t19, s.t20, s.t21, s.t22, s.t23, s.t24, s.t25, s.t26, s.t27, s.t134, s.t135, s.t136]
      clear s A32 A30' hi' I1
      have lt32 : j < 4294967296 := by have := LT.out; have := FEW.out; omega
      have q69 : wz.cell? ⟨F, 69, none⟩ = some (.int .i64 f.out.line) := ((Fw.hasOut FOK.out).trans f.out.hasLine).one (row_range HF.out)
      have q70 : wz.cell? ⟨F, 70, none⟩ = some (.int .i64 f.out.o.no) := ((Fw.hasOut FOK.out).trans (f.out.hasO.trans f.out.o.hasNo)).one (row_range HF.out)
      have hit : hitF kc kd true f = (decide (f.out.line = kc) && decide (f.out.o.no = kd)) := rfl
      by_cases h0 : o < 0
      case neg =>
        have H0 := hid h0
        have t1 : decide (o < 0) = false := decide_eq_false h0
        go_wp2_with (fail)
        refine ⟨⟨j + 1, i', o, rfl, by have := LT.out; omega, ⟨⟨rfl, rfl, rfl, rfl, rfl, rfl, rfl, rfl, rfl⟩, rfl, rfl, rfl, rfl, rfl, by simp only [tm]; go_num⟩, by rw [← HKI.out.1, ← HKI.out.2]; exact I2.out, by have q := O1.out; rw [if_neg (fun e => by have := H0.out; have := e.1; omega)] at q; rw [← HKO.out.1, ← HKO.out.2]; exact q, B7.out⟩, by show 60 - ((j : Int) + 1).toNat < 60 - ((j : Int)).toNat; have := LT.out; have := FEW.out; omega⟩
      have t1 : decide (o < 0) = true := decide_eq_true h0
      by_cases h1 : f.out.line = kc
      case neg =>
        have t2 : (f.out.line == kc) = false := by simp [h1]
        go_wp2_with (fail)
        refine ⟨⟨j + 1, i', o, rfl, by have := LT.out; omega, ⟨⟨rfl, rfl, rfl, rfl, rfl, rfl, rfl, rfl, rfl⟩, rfl, rfl, rfl, rfl, rfl, by simp only [tm]; go_num⟩, by rw [← HKI.out.1, ← HKI.out.2]; exact I2.out, by have q := O1.out; rw [if_neg (fun e => by rw [hit, decide_eq_false h1] at e; exact absurd e.2 (by simp))] at q; rw [← HKO.out.1, ← HKO.out.2]; exact q, B7.out⟩, by show 60 - ((j : Int) + 1).toNat < 60 - ((j : Int)).toNat; have := LT.out; have := FEW.out; omega⟩
      have t2 : (f.out.line == kc) = true := by simp [h1]
      by_cases h2 : f.out.o.no = kd
      case neg =>
        have t3 : (f.out.o.no == kd) = false := by simp [h2]
        go_wp2_with (fail)
        refine ⟨⟨j + 1, i', o, rfl, by have := LT.out; omega, ⟨⟨rfl, rfl, rfl, rfl, rfl, rfl, rfl, rfl, rfl⟩, rfl, rfl, rfl, rfl, rfl, by simp only [tm]; go_num⟩, by rw [← HKI.out.1, ← HKI.out.2]; exact I2.out, by have q := O1.out; rw [if_neg (fun e => by rw [hit, decide_eq_false h2] at e; exact absurd e.2 (by simp))] at q; rw [← HKO.out.1, ← HKO.out.2]; exact q, B7.out⟩, by show 60 - ((j : Int) + 1).toNat < 60 - ((j : Int)).toNat; have := LT.out; have := FEW.out; omega⟩
      have t3 : (f.out.o.no == kd) = true := by simp [h2]
      go_wp2_with (fail)
      refine ⟨⟨j + 1, i', (j : Int), rfl, by have := LT.out; omega, ⟨⟨rfl, rfl, rfl, rfl, rfl, rfl, rfl, rfl, rfl⟩, rfl, rfl, rfl, rfl, rfl, by simp only [tm]; go_num⟩, by rw [← HKI.out.1, ← HKI.out.2]; exact I2.out, by have q := O1.out; rw [if_pos ⟨h0, by rw [hit, decide_eq_true h1, decide_eq_true h2]; rfl⟩] at q; rw [← HKO.out.1, ← HKO.out.2]; exact q, B7.out⟩, by show 60 - ((j : Int) + 1).toNat < 60 - ((j : Int)).toNat; have := LT.out; have := FEW.out; omega⟩
    have M2 := hid MID2
    clear MID2 A32 O1
    have q0 : wz.cell? ⟨F, 0, none⟩ = some (.int .i64 f.inn.line) := (f.hasIn.trans f.inn.hasLine).one (row_range HF.out)
    have q1 : wz.cell? ⟨F, 1, none⟩ = some (.int .i64 f.inn.o.no) := (f.hasIn.trans (f.inn.hasO.trans f.inn.o.hasNo)).one (row_range HF.out)
    have hit : hitF ka kb false f = (decide (f.inn.line = ka) && decide (f.inn.o.no = kb)) := rfl
    by_cases h0 : i < 0
    case neg =>
      have H0 := hid h0
      have t1 : decide (i < 0) = false := decide_eq_false h0
      go_wp2_with (fail)
      refine A30'.out _ _ ?_
      go_wp2_with (fail)
      exact M2.out _ _ ⟨⟨rfl, rfl, rfl, rfl, rfl, rfl, rfl, rfl, rfl⟩, rfl, rfl, rfl, rfl, rfl, rfl, rfl, rfl, rfl, rfl, rfl, rfl⟩ (by have q := I1.out; rw [if_neg (fun e => by have := H0.out; have := e.1; omega)] at q; exact q)
    have t1 : decide (i < 0) = true := decide_eq_true h0
    by_cases h1 : f.inn.line = ka
    case neg =>
      have t2 : (f.inn.line == ka) = false := by simp [h1]
      go_wp2_with (fail)
      refine A30'.out _ _ ?_
      go_wp2_with (fail)
      exact M2.out _ _ ⟨⟨rfl, rfl, rfl, rfl, rfl, rfl, rfl, rfl, rfl⟩, rfl, rfl, rfl, rfl, rfl, rfl, rfl, rfl, rfl, rfl, rfl, rfl⟩ (by have q := I1.out; rw [if_neg (fun e => by rw [hit, decide_eq_false h1] at e; exact absurd e.2 (by simp))] at q; exact q)
    have t2 : (f.inn.line == ka) = true := by simp [h1]
    by_cases h2 : f.inn.o.no = kb
    case neg =>
      have t3 : (f.inn.o.no == kb) = false := by simp [h2]
      go_wp2_with (fail)
      refine A30'.out _ _ ?_
      go_wp2_with (fail)
      exact M2.out _ _ ⟨⟨rfl, rfl, rfl, rfl, rfl, rfl, rfl, rfl, rfl⟩, rfl, rfl, rfl, rfl, rfl, rfl, rfl, rfl, rfl, rfl, rfl, rfl⟩ (by have q := I1.out; rw [if_neg (fun e => by rw [hit, decide_eq_false h2] at e; exact absurd e.2 (by simp))] at q; exact q)
    have t3 : (f.inn.o.no == kb) = true := by simp [h2]
    go_wp2_with (fail)
    refine A30'.out _ _ ?_
    go_wp2_with (fail)
    exact M2.out _ _ ⟨⟨rfl, rfl, rfl, rfl, rfl, rfl, rfl, rfl, rfl⟩, rfl, rfl, rfl, rfl, rfl, rfl, rfl, rfl, rfl, rfl, rfl, rfl⟩ (by have q := I1.out; rw [if_pos ⟨h0, by rw [hit, decide_eq_true h1, decide_eq_true h2]; rfl⟩] at q; exact q)
  have M := hid MID
  clear MID A30 I1 O1
  by_cases k0 : x.k = 0
  · have t1 : (x.k == 0) = true := by simp [k0]
    have z1 : w7.cell? ⟨R, 1, none⟩ = some (.int .i64 x.inn.line) := (x.hasIn.trans x.inn.hasLine).one r7
    have z2 : w7.cell? ⟨R, 2, none⟩ = some (.int .i64 x.inn.o.no) := (x.hasIn.trans (x.inn.hasO.trans x.inn.o.hasNo)).one r7
    have z70 : w7.cell? ⟨R, 70, none⟩ = some (.int .i64 x.out.line) := ((Ed.hasOut XOK.out).trans x.out.hasLine).one r7
    have z71 : w7.cell? ⟨R, 71, none⟩ = some (.int .i64 x.out.o.no) := ((Ed.hasOut XOK.out).trans (x.out.hasO.trans x.out.o.hasNo)).one r7
    have e1 := HKI.out
    have e2 := HKO.out
    unfold keyI at e1
    unfold keyO at e2
    rw [if_pos k0] at e1 e2
    obtain ⟨rfl, rfl⟩ := e1
    obtain ⟨rfl, rfl⟩ := e2
    go_wp2_with (fail)
    refine A27.out _ _ ?_
    go_upto_region 28 with (fail)
    go_quiet (fail)
    go_upto_region 29 with (fail)
    go_quiet (fail)
    go_wp2_with (fail)
    refine M.out _ _ (show _ from HF.out) (by first | exact B7.out | exact below_drewN B7.out _ | exact below_drewN (below_drewN B7.out _) _ | exact below_drewN (below_drewN (below_drewN B7.out _) _) _ | exact below_drewN (below_drewN (below_drewN (below_drewN B7.out _) _) _) _) ?_
    exact ⟨⟨rfl, rfl, rfl, rfl, rfl, rfl, rfl, rfl, rfl⟩, rfl, rfl, rfl, rfl, rfl, rfl, rfl, rfl, rfl, rfl, rfl, rfl⟩
  · have t1 : (x.k == 0) = false := by simp [k0]
    have e1 := HKI.out
    have e2 := HKO.out
    unfold keyI at e1
    unfold keyO at e2
    rw [if_neg k0] at e1 e2
    obtain ⟨rfl, rfl⟩ := e1
    obtain ⟨rfl, rfl⟩ := e2
    go_wp2_with (fail)
    refine A27.out _ _ ?_
    go_wp2_with (fail)
    refine M.out _ _ (show _ from HF.out) (by first | exact B7.out | exact below_drewN B7.out _ | exact below_drewN (below_drewN B7.out _) _ | exact below_drewN (below_drewN (below_drewN B7.out _) _) _ | exact below_drewN (below_drewN (below_drewN (below_drewN B7.out _) _) _) _) ?_
    exact ⟨⟨rfl, rfl, rfl, rfl, rfl, rfl, rfl, rfl, rfl⟩, rfl, rfl, rfl, rfl, rfl, rfl, rfl, rfl, rfl, rfl, rfl, rfl⟩
end Go.Proofs.YthccjefhlmngbaaDoor

/- EdgeRuns: Close, against the law's own list. -/
namespace Go.Proofs.YthccjefhlmngbaaDoor
open Go.RowKit

theorem own_block {w : World} {B : Nat} {e : TypeId} {size n c : Nat} {aa : Option Addr} {xs : List Value} (h : w.ownsRow B e size (.slice aa n c) n xs) (hn : 0 < n) : ∃ g, aa = some ⟨g, 0, none⟩ := by
  rcases h.2 with ⟨hv, _⟩ | ⟨g', cap', cur, hv, _⟩
  · simp only [Value.slice.injEq] at hv
    omega
  · simp only [Value.slice.injEq] at hv
    exact ⟨g', hv.1⟩
theorem own_fwd {w : World} {B n c g : Nat} {L : List Fw} (h : w.ownsRow B 62 204 (.slice (some ⟨g, 0, none⟩) n c) n (L.flatMap Fw.cells)) (hok : ∀ f ∈ L, f.ok) {j : Nat} {f : Fw} (hj : L[j]? = some f) : w.rangeAt g (j * 204) f.cells := by
  have hl := fwlen hok
  obtain ⟨A, B', e, hA⟩ := fwat hok hj
  intro k v hk
  have hlt : j * 204 + k < (L.flatMap Fw.cells).length := by
    have := (List.getElem?_eq_some_iff.1 hk).1
    rw [e, List.length_append, List.length_append, hA]; omega
  rw [h.cellAt (j * 204 + k) (by rw [← h.1]; exact hlt), e, List.getElem?_append_right (by omega), hA, Nat.add_sub_cancel_left, List.getElem?_append_left (List.getElem?_eq_some_iff.1 hk).1]
  exact hk
theorem own_take {w : World} {B ac g : Nat} {L : List Fw} (h : w.ownsRow B 62 204 (.slice (some ⟨g, 0, none⟩) L.length ac) L.length (L.flatMap Fw.cells)) (hok : ∀ f ∈ L, f.ok) {j : Nat} (hj : j ≤ L.length) (hc : L.length ≤ ac) (hm : ac ≤ maxLen) :
    Rd w 204 (some ⟨g, 0, none⟩) j ac ((L.flatMap Fw.cells).take (j * 204)) := by
  have hl := fwlen hok
  refine ⟨by rw [List.length_take, hl]; have := Nat.mul_le_mul_right 204 hj; omega, by omega, hm, (fun e => nomatch e), g, 0, fun _ => rfl, fun i u hu => ?_⟩
  rw [List.getElem?_take] at hu
  split at hu
  · rw [Nat.zero_add, h.cellAt i (by have := (List.getElem?_eq_some_iff.1 hu).1; omega)]; exact hu
  · cases hu
theorem own_drop {w : World} {B ac g : Nat} {L : List Fw} (h : w.ownsRow B 62 204 (.slice (some ⟨g, 0, none⟩) L.length ac) L.length (L.flatMap Fw.cells)) (hok : ∀ f ∈ L, f.ok) {u : Nat} (hu : u ≤ L.length) (hc : L.length ≤ ac) (hm : ac ≤ maxLen) {su : Option Addr} (hs : su = if ac = u then some ⟨g, 0, none⟩ else some ⟨g, u * 204, none⟩) :
    Rd w 204 su (L.length - u) (ac - u) ((L.flatMap Fw.cells).drop (u * 204)) := by
  have hl := fwlen hok
  have len : ((L.flatMap Fw.cells).drop (u * 204)).length = (L.length - u) * 204 := by rw [List.length_drop, hl, Nat.sub_mul]
  by_cases hcu : ac = u
  · rw [if_pos hcu] at hs
    subst hs
    refine ⟨len, by omega, by omega, (fun e => nomatch e), g, 0, fun h0 => by omega, fun i y hy => ?_⟩
    have := (List.getElem?_eq_some_iff.1 hy).1
    rw [len] at this
    have : L.length - u = 0 := by omega
    omega
  · rw [if_neg hcu] at hs
    subst hs
    refine ⟨len, by omega, by omega, (fun e => nomatch e), g, u * 204, fun _ => rfl, fun i y hy => ?_⟩
    rw [List.getElem?_drop] at hy
    rw [h.cellAt (u * 204 + i) (by have := (List.getElem?_eq_some_iff.1 hy).1; omega)]
    exact hy
theorem own_low1 {w : World} {A B : Nat} {e : TypeId} {size n : Nat} {v : Value} {xs : List Value} (h : w.ownsRow A e size v n xs) (hB : B ≤ A) : w.ownsRow B e size v n xs := by
  refine ⟨h.1, ?_⟩
  rcases h.2 with hv | ⟨g, cap, cur, hv, hb, rest⟩
  · exact .inl hv
  · exact .inr ⟨g, cap, cur, hv, Nat.le_trans hB hb, rest⟩
theorem own_bare {w : World} {g : Nat} (hg : w.heap[g]? = some (.cells #[] 62 (0, 0))) {B : Nat} (hB : B ≤ g) : w.ownsRow B 62 204 (.slice (some ⟨g, 0, none⟩) 0 0) 0 [] :=
  ⟨rfl, .inr ⟨g, 0, #[], rfl, hB, hg, Nat.le_refl _, Nat.zero_le _, rfl, rfl⟩⟩
set_option maxRecDepth 1000000 in
set_option maxHeartbeats 16000000 in
theorem arm3 {w0 w : World} {eb tb mb t2 m2 : Nat} {dl : Int} {B nq : Nat} {v : Value} {L : List Fw} {M : QM} {va qv sv : Value} {k R X Y : Nat} {i o : Int} {x : Ed} {T : Array Value} (h : ArmI w0 w eb tb mb t2 m2 dl B nq v L M va qv sv k R X Y i o x T) (h0 : x.k ≠ 0) :
    (rnP 83).wp Tryd.prog (ArmO w0 eb tb mb t2 m2 dl B nq qv sv k) ⟨T, []⟩ w := by
  have H := hid h
  obtain ⟨aa, ac, rfl, rd⟩ := Rd.of_owns h.run.own
  have ii : IdxAt L (hitF x.line x.n false) i := by have := h.ii; rwa [keyI, if_neg h0] at this
  have II := hid ii
  have r6 := row_range h.r.1.1
  have c172 : w.cell? ⟨R, 172, none⟩ = some (.int .i64 x.line) := (Ed.hasLine h.ok).one r6
  have c173 : w.cell? ⟨R, 173, none⟩ = some (.int .i64 x.n) := (Ed.hasN h.ok).one r6
  rw [frameR h.s.size, h.s.t0, h.s.t1, h.s.t02, h.s.t7, h.s.t8, h.s.t9, h.s.t17, h.s.t18, h.t19, h.t20, h.t21, h.t28, h.t29, h.t30, h.t31]
  clear h h0 r6 rd ii
  conv => arg 2; whnf
  go_wp2_with (fail)
  refine (close_walk eb tb mb dl B v L M nq x.line x.n w H.out.run.ses.s).mono ?_
  rintro e w1 ⟨kc, L1, v1, rfl, s1, k1, y1, c1⟩
  have R1 := hid (H.out.run.edge s1 k1 y1)
  have HX := hid (H.out.hx.edge k1 y1)
  have HY := hid (H.out.hy.edge k1 y1)
  have C1 := hid c1
  clear s1 k1 y1 c1 c172 c173
  by_cases hi : i < 0
  case pos =>
    have t1 : decide (i < 0) = true := decide_eq_true hi
    obtain ⟨rfl, rfl⟩ : kc = 5 ∧ L1 = L := by
      rcases C1.out with ⟨_, h1, h2⟩ | ⟨j, f, hf, _⟩
      · exact ⟨h1, h2⟩
      · exact (hf.no (II.out.miss hi)).elim
    clear II C1 hi
    go_wp2_with (fail)
    exact ⟨rfl, v1, _, L1, M, 5, lz, X, Y, ⟨rfl, rfl, rfl, rfl, rfl, rfl, rfl, rfl, rfl⟩, rfl, rfl, rfl, rfl, R1.out, Nat.le_succ_of_le H.out.few, lz_ok, HX.out.1.1, HY.out.1.1⟩
  obtain ⟨j, f, rfl, ff⟩ := II.out.hit hi
  have hjl := (List.getElem?_eq_some_iff.1 ff.1).1
  have fok := H.out.run.ses.s.e.ok f (List.mem_of_getElem? ff.1)
  obtain ⟨g, rfl⟩ := own_block H.out.run.own (by omega)
  have row := own_fwd R1.out.own H.out.run.ses.s.e.ok ff.1
  have c203 : w1.cell? ⟨g, j * 204 + 203, none⟩ = some (.int .i64 f.st) := (Fw.hasSt fok).one row
  have t1 : decide ((j : Int) < 0) = false := decide_eq_false hi
  have FF := hid ff
  have c2 : (f.st = 0 ∧ kc = 52 ∧ L1 = L) ∨ (f.st ≠ 0 ∧ kc = 0 ∧ L1 = L.eraseIdx j) := by
    rcases C1.out with ⟨hn, _, _⟩ | ⟨j', f', hf, hc⟩
    · exact (ff.no hn).elim
    · obtain ⟨rfl, rfl⟩ := ff.one hf
      exact hc
  have LT := hid hjl
  clear C1 II hi ff row
  rcases c2 with ⟨hs, rfl, rfl⟩ | ⟨hs, rfl, rfl⟩
  · have u2 : (f.st == 0) = true := by simp [hs]
    clear hs
    go_wp2_with (fail)
    exact ⟨rfl, v1, _, L1, M, 52, lz, X, Y, ⟨rfl, rfl, rfl, rfl, rfl, rfl, rfl, rfl, rfl⟩, rfl, rfl, rfl, rfl, R1.out, Nat.le_succ_of_le H.out.few, lz_ok, HX.out.1.1, HY.out.1.1⟩
  · have u2 : (f.st == 0) = false := by simp [hs]
    clear hs
    go_upto_region 84 with (fail)
    obtain ⟨u, hu⟩ : ∃ u, u = j + 1 := ⟨_, rfl⟩
    have r7 : IntKind.i64.wrap ((j : Int) + 1) = (u : Int) := by have := LT.out; have := H.out.few; have := H.out.k60; rw [IntKind.wrap_i64]; omega
    obtain ⟨cap, hcap⟩ : ∃ cap : Array Value, L.length ≤ ac ∧ ac ≤ maxLen := by
      rcases R1.out.own.2 with ⟨hv, _⟩ | ⟨g', cap', cur, hv, _, _, h3, h4, _⟩
      · simp at hv
      · simp only [Value.slice.injEq] at hv
        obtain ⟨_, _, rfl⟩ := hv
        exact ⟨#[], h3, h4⟩
    have i1 : (0 : Int) ≤ (j : Int) := by omega
    have i2 : (j : Int) ≤ (ac : Int) := by have := LT.out; omega
    have i3 : (u : Int) ≤ (L.length : Int) := by have := LT.out; omega
    have i4 : (0 : Int) ≤ (u : Int) := by omega
    have i5 : ((L.length : Nat) : Int) ≤ (ac : Int) := by omega
    have i6 : j ≤ ac := by omega
    have i7 : u ≤ L.length := by omega
    have i8 : L.length ≤ ac := hcap.1
    obtain ⟨su, hsu⟩ : ∃ su, (if ac = u then (some ⟨g, 0, none⟩ : Option Addr) else some ⟨g, u * 204, none⟩) = su := ⟨_, rfl⟩
    have hok := H.out.run.ses.s.e.ok
    have RT := hid (own_take R1.out.own hok (j := j) (by omega) hcap.1 hcap.2)
    have RU := hid (own_drop R1.out.own hok i7 hcap.1 hcap.2 hsu.symm)
    have HOK := hid hok
    have HU := hid hu
    have LF := hid (fwlen hok)
    have ONE := hid (show ∀ y ∈ L.flatMap Fw.cells, y.oneCell' = true from fun y hy => by
      obtain ⟨f, _, hf⟩ := List.mem_flatMap.1 hy
      exact Fw.one f y hf)
    have L60 := hid (show L.length < 60 from by have := H.out.few; have := H.out.k60; omega)
    have BW := hid R1.out.ses.s.lt.2.2
    clear hcap cap hok hu
    refine wp_region_held_drew (S := fun w' => Below w1.heap.size w1 w') (by kernel_rfl) ((Below.refl _ _).drew) (fun hHeld => ?_)
    try simp only [List.size_toArray, List.length_cons, List.length_nil, Nat.reduceAdd, Array.replicate_succ, Array.replicate_zero, List.push_toArray, List.nil_append, List.cons_append]
    refine wpAnyH_take (i := 1) (oi := { dst := some 479, op := Op.move (Operand.tmp 17), type := 51, pos := "law.go:183", after := #[], guard := none }) (v := ?v1001) rfl (by kernel_rfl) (by kernel_rfl) (by kernel_rfl) (fun _ _ _ h => h) (Or.inl ⟨by rfl, ?hy1001⟩) hHeld ?_
    case hy1001 => (intro w hSw; (try dsimp only at hSw); go_simp; (try with_reducible rfl))
    (try simp only [Act.put, List.setIfInBounds_toArray, List.set_cons_zero, List.set_cons_succ])
    refine wpAnyH_take (i := 2) (oi := { dst := some 480, op := Op.move (Operand.tmp 20), type := 3, pos := "law.go:183", after := #[], guard := none }) (v := ?v1002) rfl (by kernel_rfl) (by kernel_rfl) (by kernel_rfl) (fun _ _ _ h => h) (Or.inl ⟨by rfl, ?hy1002⟩) hHeld ?_
    case hy1002 => (intro w hSw; (try dsimp only at hSw); go_simp; (try with_reducible rfl))
    (try simp only [Act.put, List.setIfInBounds_toArray, List.set_cons_zero, List.set_cons_succ])
    refine wpAnyH_take (i := 3) (oi := { dst := some 481, op := Op.slice 51 (Operand.tmp 479) none (some (Operand.tmp 480)) none, type := 51, pos := "law.go:183", after := #[{ on := 1, ground := Ground.data }, { on := 2, ground := Ground.data }], guard := none }) (v := ?v1003) rfl (by kernel_rfl) (by kernel_rfl) (by kernel_rfl) (fun _ _ _ h => h) (Or.inl ⟨by rfl, ?hy1003⟩) hHeld ?_
    case hy1003 => (intro w hSw; (try dsimp only at hSw); go_simp; (try with_reducible rfl))
    (try simp only [Act.put, List.setIfInBounds_toArray, List.set_cons_zero, List.set_cons_succ])
    refine wpAnyH_take (i := 5) (oi := { dst := some 483, op := Op.move (Operand.tmp 17), type := 51, pos := "law.go:183", after := #[], guard := none }) (v := ?v1004) rfl (by kernel_rfl) (by kernel_rfl) (by kernel_rfl) (fun _ _ _ h => h) (Or.inl ⟨by rfl, ?hy1004⟩) hHeld ?_
    case hy1004 => (intro w hSw; (try dsimp only at hSw); go_simp; (try with_reducible rfl))
    (try simp only [Act.put, List.setIfInBounds_toArray, List.set_cons_zero, List.set_cons_succ])
    refine wpAnyH_take (i := 6) (oi := { dst := some 484, op := Op.move (Operand.tmp 20), type := 3, pos := "law.go:183", after := #[], guard := none }) (v := ?v1005) rfl (by kernel_rfl) (by kernel_rfl) (by kernel_rfl) (fun _ _ _ h => h) (Or.inl ⟨by rfl, ?hy1005⟩) hHeld ?_
    case hy1005 => (intro w hSw; (try dsimp only at hSw); go_simp; (try with_reducible rfl))
    (try simp only [Act.put, List.setIfInBounds_toArray, List.set_cons_zero, List.set_cons_succ])
    refine wpAnyH_take (i := 7) (oi := { dst := some 485, op := Op.binOp BinOp.add 3 (Operand.tmp 484) (Operand.const (Value.int IntKind.i64 1)) 3, type := 3, pos := "law.go:183", after := #[{ on := 6, ground := Ground.data }], guard := none }) (v := ?v1006) rfl (by kernel_rfl) (by kernel_rfl) (by kernel_rfl) (fun _ _ _ h => h) (Or.inl ⟨by rfl, ?hy1006⟩) hHeld ?_
    case hy1006 => (intro w hSw; (try dsimp only at hSw); go_simp; (try with_reducible rfl))
    (try simp only [Act.put, List.setIfInBounds_toArray, List.set_cons_zero, List.set_cons_succ])
    refine wpAnyH_take (i := 8) (oi := { dst := some 486, op := Op.slice 51 (Operand.tmp 483) (some (Operand.tmp 485)) none none, type := 51, pos := "law.go:183", after := #[{ on := 5, ground := Ground.data }, { on := 7, ground := Ground.data }], guard := none }) (v := ?v1007) rfl (by kernel_rfl) (by kernel_rfl) (by kernel_rfl) (fun _ _ _ h => h) (Or.inl ⟨by rfl, ?hy1007⟩) hHeld ?_
    case hy1007 => (intro w hSw; (try dsimp only at hSw); go_simp; (try with_reducible rfl))
    (try simp only [Act.put, List.setIfInBounds_toArray, List.set_cons_zero, List.set_cons_succ])
    refine wpAnyH_ready (rs := [0]) (by kernel_rfl) (by simp) ?_
    refine AllReadyH.cons (o := { dst := some 478, op := Op.buildSlice 51 0 #[], type := 51, pos := "law.go:183", after := #[], guard := none }) rfl (fun K hK => ?_) ?_
    go_simp; (first | refine newZ ?_ | refine newZd ?_); intro wl hl bl; have HLt := hid hl; have BL := hid bl; clear hl bl
    refine hK.out _ _ (by first | exact hHeld.trans (BL.out.mono hHeld.size) | exact BL.out) (fun hHeld => ?_)
    clear hK K
    (try simp only [List.setIfInBounds_toArray, List.set_cons_zero, List.set_cons_succ])
    refine wpAnyH_ready (rs := [4]) (by kernel_rfl) (by simp) ?_
    refine AllReadyH.cons (o := { dst := some 482, op := Op.call { callee := Callee.builtin Builtin.append, args := #[Operand.tmp 478, Operand.tmp 481], argTypes := #[51, 51] }, type := 51, pos := "law.go:183", after := #[{ on := 0, ground := Ground.data }, { on := 3, ground := Ground.data }], guard := none }) rfl (fun K hK => ?_) ?_
    rw [if_pos (by rfl)]; refine wp_cat _ _ _ rfl tyFs w1.heap.size (own_bare HLt.out (Nat.le_refl _)) rfl rfl (RT.out.below BL.out) (fun y hy => ONE.out y (List.mem_of_mem_take hy)) (by have := L60.out; omega) (by have := L60.out; unfold maxLen; omega) BL.out.size ?_; intro v5 w5 own5 g5 nb5; have O5 := hid own5; have G5 := hid (BL.out.grown g5 BL.out.size (fun k hk => by cases hk; exact Nat.le_refl _)); have N5 := hid nb5; clear own5 g5 nb5
    refine hK.out _ _ (G5.out) (fun hHeld => ?_)
    clear hK K
    (try simp only [List.setIfInBounds_toArray, List.set_cons_zero, List.set_cons_succ])
    refine wpAnyH_ready (rs := [9]) (by kernel_rfl) (by simp) ?_
    refine AllReadyH.cons (o := { dst := some 487, op := Op.call { callee := Callee.builtin Builtin.append, args := #[Operand.tmp 482, Operand.tmp 486], argTypes := #[51, 51] }, type := 51, pos := "law.go:183", after := #[{ on := 4, ground := Ground.data }, { on := 8, ground := Ground.data }, { on := 4, ground := Ground.chain }], guard := none }) rfl (fun K hK => ?_) ?_
    rw [if_pos (by rfl)]; refine wp_cat _ _ _ rfl tyFs w1.heap.size O5.out rfl rfl (RU.out.below G5.out) (fun y hy => ONE.out y (List.mem_of_mem_drop hy)) (by have := L60.out; omega) (by have := L60.out; unfold maxLen; omega) G5.out.size ?_; intro v6 w6 own6 g6 nb6; have O6 := hid own6; have G6 := hid (G5.out.grown g6 G5.out.size (fun k hk => (O5.out.lt _ hk).1)); clear own6 g6 nb6
    refine hK.out _ _ (G6.out) (fun hHeld => ?_)
    clear hK K
    (try simp only [List.setIfInBounds_toArray, List.set_cons_zero, List.set_cons_succ])
    refine wpAnyH_take (i := 10) (oi := { dst := some 17, op := Op.assign (Operand.tmp 487), type := 51, pos := "law.go:183", after := #[{ on := 9, ground := Ground.data }, { on := 9, ground := Ground.chain }, { on := 0, ground := Ground.phase }, { on := 1, ground := Ground.phase }, { on := 2, ground := Ground.phase }, { on := 3, ground := Ground.phase }, { on := 4, ground := Ground.phase }, { on := 5, ground := Ground.phase }, { on := 6, ground := Ground.phase }, { on := 7, ground := Ground.phase }, { on := 8, ground := Ground.phase }, { on := 9, ground := Ground.phase }], guard := none }) (v := ?v1008) rfl (by kernel_rfl) (by kernel_rfl) (by kernel_rfl) (fun _ _ _ h => h) (Or.inl ⟨by rfl, ?hy1008⟩) hHeld ?_
    case hy1008 => (intro w hSw; (try dsimp only at hSw); go_simp; (try with_reducible rfl))
    (try simp only [Act.put, List.setIfInBounds_toArray, List.set_cons_zero, List.set_cons_succ])
    refine wpAnyH_done (by kernel_rfl) ?_ _
    rotate_left
    exact AllReadyH.nil
    exact AllReadyH.nil
    exact AllReadyH.nil
    all_goals
      have own' : w6.ownsRow B 62 204 v6 (L.eraseIdx j).length ((L.eraseIdx j).flatMap Fw.cells) := by
        have o := own_low1 O6.out BW.out
        rw [List.nil_append, HU.out, ← fw_erase HOK.out LT.out, Nat.zero_add] at o
        rw [List.length_eraseIdx_of_lt LT.out]
        have e : j + (L.length - (j + 1)) = L.length - 1 := by have := LT.out; omega
        rw [e] at o
        exact o
      have ky : v6.ownBlock = (Value.slice (some ⟨g, 0, none⟩) L.length ac).ownBlock ∨ ∀ g, v6.ownBlock = some g → w1.heap.size ≤ g := .inr (fun g hg => (O6.out.lt _ hg).1)
      exact ⟨rfl, v1, v6, _, M, 0, lz, X, Y, ⟨rfl, rfl, rfl, rfl, rfl, rfl, rfl, rfl, rfl⟩, rfl, rfl, rfl, rfl, R1.out.row own' (Keep.of G6.out) ky, by have := H.out.few; rw [List.length_eraseIdx_of_lt LT.out]; omega, lz_ok, (HX.out.row (Keep.of G6.out) ky).1.1, (HY.out.row (Keep.of G6.out) ky).1.1⟩
end Go.Proofs.YthccjefhlmngbaaDoor

/- EdgeRuns: GivenBack, against the law's own list. -/
namespace Go.Proofs.YthccjefhlmngbaaDoor
open Go.RowKit

theorem keep_own {g n c : Nat} {w w' : World} (f : Far g w w') : Keep (fun i => (Value.slice (some ⟨g, 0, none⟩) n c).ownBlock = some i) w w' := Keep.far f rfl
set_option maxRecDepth 1000000 in
set_option maxHeartbeats 16000000 in
theorem arm2 {w0 w : World} {eb tb mb t2 m2 : Nat} {dl : Int} {B nq : Nat} {v : Value} {L : List Fw} {M : QM} {va qv sv : Value} {k R X Y : Nat} {i o : Int} {x : Ed} {T : Array Value} (h : ArmI w0 w eb tb mb t2 m2 dl B nq v L M va qv sv k R X Y i o x T) (h0 : x.k ≠ 0) :
    (rnP 74).wp Tryd.prog (ArmO w0 eb tb mb t2 m2 dl B nq qv sv k) ⟨T, []⟩ w := by
  have H := hid h
  obtain ⟨aa, ac, rfl, rd⟩ := Rd.of_owns h.run.own
  have oo : IdxAt L (hitF x.line x.n true) o := by have := h.io; rwa [keyO, if_neg h0] at this
  have OO := hid oo
  have r6 := row_range h.r.1.1
  have c172 : w.cell? ⟨R, 172, none⟩ = some (.int .i64 x.line) := (Ed.hasLine h.ok).one r6
  have c173 : w.cell? ⟨R, 173, none⟩ = some (.int .i64 x.n) := (Ed.hasN h.ok).one r6
  have unL := Tryd.underlying42
  have un := Tryd.underlying27
  rw [frameR h.s.size, h.s.t0, h.s.t1, h.s.t02, h.s.t7, h.s.t8, h.s.t9, h.s.t17, h.s.t18, h.t19, h.t20, h.t21, h.t28, h.t29, h.t30, h.t31]
  clear h h0 r6 rd oo
  conv => arg 2; whnf
  go_wp2_with (fail)
  refine (given_walk eb tb mb dl B v L M nq x.line x.n w H.out.run.ses.s).mono ?_
  rintro e w1 ⟨lg, kc, L1, M1, rfl, s1, k1, c1, lok⟩
  have R1 := hid (H.out.run.edge s1 k1 (Newer.refl _ _))
  have HX := hid (H.out.hx.edge k1 (Newer.refl _ _))
  have HY := hid (H.out.hy.edge k1 (Newer.refl _ _))
  have C1 := hid c1
  have LOK := hid lok
  have lia := hid (infoLa lok)
  have liz := hid (show lz.cells.toArray.size = lg.cells.toArray.size from zL_as lok)
  have lio := hid (all_oneCell_toArray (Lg.one lg))
  clear s1 k1 c1 c172 c173 lok
  have hX1 := HX.out.1.1
  go_upto_region 78 with (with_reducible refine wpList_sr X lg.cells.toArray _ lz.cells.toArray lia liz lio rfl rfl hX1 ?_)
  have q2 := setRow_heap w1 X _ lg.cells.toArray _ _ HX.out.1.1
  have fx := far_row w1 X lg.cells.toArray
  generalize w1.setRow X lg.cells.toArray = w2 at *
  have R2 := hid (R1.out.far HX.out fx)
  have HY2 := hid (HY.out.far fx (fun e => H.out.ne.1 e.symm))
  have HX2 := hid (HX.out.set q2)
  clear hX1 q2 fx R1 HX HY lia liz lio
  by_cases hi : o < 0
  case pos =>
    have t1 : decide (o < 0) = true := decide_eq_true hi
    obtain ⟨rfl, rfl, rfl, rfl⟩ : lg = lz ∧ kc = 5 ∧ L1 = L ∧ M1 = M := by
      rcases C1.out with ⟨_, h1, h2, h3, h4⟩ | ⟨j, f, hf, _⟩
      · exact ⟨h1, h2, h3, h4⟩
      · exact (hf.no (OO.out.miss hi)).elim
    clear OO C1 hi
    go_wp2_with (fail)
    exact ⟨rfl, v, _, L1, M1, 5, lz, X, Y, ⟨rfl, rfl, rfl, rfl, rfl, rfl, rfl, rfl, rfl⟩, rfl, rfl, rfl, rfl, R2.out, Nat.le_succ_of_le H.out.few, lz_ok, HX2.out.1.1, HY2.out.1.1⟩
  obtain ⟨j, f, rfl, ff⟩ := OO.out.hit hi
  have hjl := (List.getElem?_eq_some_iff.1 ff.1).1
  have fok := H.out.run.ses.s.e.ok f (List.mem_of_getElem? ff.1)
  obtain ⟨g, rfl⟩ := own_block H.out.run.own (by omega)
  have c203 : w2.cell? ⟨g, j * 204 + 203, none⟩ = some (.int .i64 f.st) := (Fw.hasSt fok).one (own_fwd R2.out.own H.out.run.ses.s.e.ok ff.1)
  have t1 : decide ((j : Int) < 0) = false := decide_eq_false hi
  have FF := hid ff
  have FOK := hid fok
  have c2 : (f.st ≠ 0 ∧ lg = lz ∧ kc = 52 ∧ L1 = L ∧ M1 = M) ∨ (f.st = 0 ∧ lg = f.inn ∧ kc = 0 ∧ L1 = L.set j { f with st := 2 } ∧ M1 = resM M f.qt (undoS (M f.qt) f.units)) := by
    rcases C1.out with ⟨hn, _⟩ | ⟨j', f', hf, hc⟩
    · exact (ff.no hn).elim
    · obtain ⟨rfl, rfl⟩ := ff.one hf
      exact hc
  have LT := hid hjl
  clear C1 hi ff OO fok
  rcases c2 with ⟨hs, rfl, rfl, rfl, rfl⟩ | ⟨hs, rfl, rfl, rfl, rfl⟩
  · have u2 : (f.st != 0) = true := by simp [hs]
    clear hs
    go_wp2_with (fail)
    exact ⟨rfl, v, _, L1, M1, 52, lz, X, Y, ⟨rfl, rfl, rfl, rfl, rfl, rfl, rfl, rfl, rfl⟩, rfl, rfl, rfl, rfl, R2.out, Nat.le_succ_of_le H.out.few, lz_ok, HX2.out.1.1, HY2.out.1.1⟩
  have u2 : (f.st != 0) = false := by simp [hs]
  have z203 := R2.out.own.frozenAt (j * 204 + 203)
  clear hs
  go_upto_region 76 with (fail)
  obtain ⟨f', hf'⟩ : ∃ f', f' = { f with st := 2 } := ⟨_, rfl⟩
  rw [← hf'] at R2
  have fok' := hid (show f'.ok from by rw [hf']; exact { FOK.out with sw := (show (Lit.int .i64 2).wf = true by decide) })
  have own3 := (R2.out.own.stored (j * 204 + 203) (.int .i64 2)).1
  rw [fwset H.out.run.ses.s.e.ok FF.out.1 (by decide) (q' := f') (by rw [Fw.setSt FOK.out, hf'])] at own3
  have f3 := Far.set (H := g) (j := j * 204 + 203) (w := w2) (.int .i64 2)
  have len' := hid (show (L.set j f').length = L.length from List.length_set)
  rw [← len'.out] at own3
  have EF := hid (show f.qt = f'.qt ∧ f.units = f'.units ∧ f.inn = f'.inn from by rw [hf']; exact ⟨rfl, rfl, rfl⟩)
  clear z203 c203 hf'
  generalize w2.setCell ⟨g, j * 204 + 203, none⟩ (.int .i64 2) = w3 at *
  rw [len'.out] at own3
  have R3 := hid (R2.out.row (va' := .slice (some ⟨g, 0, none⟩) L.length ac) (La' := L.set j f') (by rw [len'.out]; exact own3) (keep_own f3) (.inl rfl))
  have HX3 := hid (HX2.out.row (va' := .slice (some ⟨g, 0, none⟩) L.length ac) (keep_own f3) (.inl rfl))
  have HY3 := hid (HY2.out.row (va' := .slice (some ⟨g, 0, none⟩) L.length ac) (keep_own f3) (.inl rfl))
  rw [EF.out.1, EF.out.2.1] at R3
  rw [EF.out.2.2] at HX3
  clear own3 f3 R2 HX2 HY2
  have LS := hid (show (L.set j f')[j]? = some f' from List.getElem?_set_self LT.out)
  have row3 : w3.rangeAt g (j * 204) f'.cells := by have o := R3.out.own; rw [len'.out] at o; exact own_fwd o R3.out.ses.s.e.ok LS.out
  have rq : w3.rangeAt g (j * 204 + 138) (nums .u8 f'.qt) := (Fw.hasQt fok'.out).rng row3
  have ru : w3.cell? ⟨g, j * 204 + 170, none⟩ = some (.int .u64 (f'.units : Int)) := (Fw.hasUnits fok'.out).one row3
  have iq := hid (show (Tryd.prog.info? 27).map (·.size) = some (nums .u8 f'.qt).length by rw [nums_length, fok'.out.ql]; exact infoH)
  have UW := fun wx (hx : TabAt wx t2 m2 M nq) => hid (undo_walk t2 m2 nq M f'.qt ⟨fok'.out.ql, fok'.out.qb⟩ f'.units fok'.out.ub wx hx)
  have GM : ¬ (g = m2) := fun e => by have := (R3.out.own.lt g rfl).1; have := R3.out.df.2.2.1.2; omega
  have OK3 := hid R3.out.ses.s.e.ok
  clear row3
  refine wp_region_held_drew (S := fun w' => w'.rangeAt g (j * 204 + 138) (nums .u8 f'.qt) ∧ w'.cell? ⟨g, j * 204 + 170, none⟩ = some (.int .u64 (f'.units : Int))) (by kernel_rfl) (⟨range_keep (Below.refl _ _).drew rq, cell_keep (Below.refl _ _).drew ru⟩) (fun hHeld => ?_)
  try simp only [List.size_toArray, List.length_cons, List.length_nil, Nat.reduceAdd, Array.replicate_succ, Array.replicate_zero, List.push_toArray, List.nil_append, List.cons_append]
  refine wpAnyH_take (i := 0) (oi := { dst := some 443, op := Op.move (Operand.tmp 8), type := 24, pos := "law.go:172", after := #[], guard := none }) (v := ?v1001) rfl (by kernel_rfl) (by kernel_rfl) (by kernel_rfl) (fun _ _ _ h => h) (Or.inl ⟨by rfl, ?hy1001⟩) hHeld ?_
  case hy1001 => (intro w hSw; (try dsimp only at hSw); go_simp; (try with_reducible rfl))
  (try simp only [Act.put, List.setIfInBounds_toArray, List.set_cons_zero, List.set_cons_succ])
  refine wpAnyH_take (i := 1) (oi := { dst := some 444, op := Op.move (Operand.tmp 17), type := 51, pos := "law.go:172", after := #[], guard := none }) (v := ?v1002) rfl (by kernel_rfl) (by kernel_rfl) (by kernel_rfl) (fun _ _ _ h => h) (Or.inl ⟨by rfl, ?hy1002⟩) hHeld ?_
  case hy1002 => (intro w hSw; (try dsimp only at hSw); go_simp; (try with_reducible rfl))
  (try simp only [Act.put, List.setIfInBounds_toArray, List.set_cons_zero, List.set_cons_succ])
  refine wpAnyH_take (i := 2) (oi := { dst := some 445, op := Op.move (Operand.tmp 21), type := 3, pos := "law.go:172", after := #[], guard := none }) (v := ?v1003) rfl (by kernel_rfl) (by kernel_rfl) (by kernel_rfl) (fun _ _ _ h => h) (Or.inl ⟨by rfl, ?hy1003⟩) hHeld ?_
  case hy1003 => (intro w hSw; (try dsimp only at hSw); go_simp; (try with_reducible rfl))
  (try simp only [Act.put, List.setIfInBounds_toArray, List.set_cons_zero, List.set_cons_succ])
  refine wpAnyH_take (i := 3) (oi := { dst := some 446, op := Op.indexAddr 51 (Operand.tmp 444) (Operand.tmp 445), type := 0, pos := "law.go:172", after := #[{ on := 1, ground := Ground.data }, { on := 2, ground := Ground.data }], guard := none }) (v := ?v1004) rfl (by kernel_rfl) (by kernel_rfl) (by kernel_rfl) (fun _ _ _ h => h) (Or.inl ⟨by rfl, ?hy1004⟩) hHeld ?_
  case hy1004 => (intro w hSw; (try dsimp only at hSw); go_simp; (try with_reducible rfl))
  (try simp only [Act.put, List.setIfInBounds_toArray, List.set_cons_zero, List.set_cons_succ])
  refine wpAnyH_take (i := 4) (oi := { dst := some 447, op := Op.fieldAddr 62 (Operand.tmp 446) 2, type := 0, pos := "law.go:172", after := #[{ on := 3, ground := Ground.data }], guard := none }) (v := ?v1005) rfl (by kernel_rfl) (by kernel_rfl) (by kernel_rfl) (fun _ _ _ h => h) (Or.inl ⟨by rfl, ?hy1005⟩) hHeld ?_
  case hy1005 => (intro w hSw; (try dsimp only at hSw); go_simp; (try with_reducible rfl))
  (try simp only [Act.put, List.setIfInBounds_toArray, List.set_cons_zero, List.set_cons_succ])
  refine' wpAnyH_take (i := 5) (oi := { dst := some 448, op := Op.load 27 (Operand.tmp 447), type := 27, pos := "law.go:172", after := #[{ on := 4, ground := Ground.data }], guard := none }) (v := _) rfl (by kernel_rfl) (by kernel_rfl) (by kernel_rfl) (fun _ _ _ h => h) (yieldsIf_load_mid (by rfl) _ _ rfl g (j * 204 + 138) rfl (nums .u8 f'.qt) _ (fun _ h => h.1) un rfl iq.out) hHeld ?_
  (try simp only [Act.put, List.setIfInBounds_toArray, List.set_cons_zero, List.set_cons_succ])
  refine wpAnyH_take (i := 6) (oi := { dst := some 449, op := Op.move (Operand.tmp 17), type := 51, pos := "law.go:172", after := #[], guard := none }) (v := ?v1006) rfl (by kernel_rfl) (by kernel_rfl) (by kernel_rfl) (fun _ _ _ h => h) (Or.inl ⟨by rfl, ?hy1006⟩) hHeld ?_
  case hy1006 => (intro w hSw; (try dsimp only at hSw); go_simp; (try with_reducible rfl))
  (try simp only [Act.put, List.setIfInBounds_toArray, List.set_cons_zero, List.set_cons_succ])
  refine wpAnyH_take (i := 7) (oi := { dst := some 450, op := Op.move (Operand.tmp 21), type := 3, pos := "law.go:172", after := #[], guard := none }) (v := ?v1007) rfl (by kernel_rfl) (by kernel_rfl) (by kernel_rfl) (fun _ _ _ h => h) (Or.inl ⟨by rfl, ?hy1007⟩) hHeld ?_
  case hy1007 => (intro w hSw; (try dsimp only at hSw); go_simp; (try with_reducible rfl))
  (try simp only [Act.put, List.setIfInBounds_toArray, List.set_cons_zero, List.set_cons_succ])
  refine wpAnyH_take (i := 8) (oi := { dst := some 451, op := Op.indexAddr 51 (Operand.tmp 449) (Operand.tmp 450), type := 0, pos := "law.go:172", after := #[{ on := 6, ground := Ground.data }, { on := 7, ground := Ground.data }], guard := none }) (v := ?v1008) rfl (by kernel_rfl) (by kernel_rfl) (by kernel_rfl) (fun _ _ _ h => h) (Or.inl ⟨by rfl, ?hy1008⟩) hHeld ?_
  case hy1008 => (intro w hSw; (try dsimp only at hSw); go_simp; (try with_reducible rfl))
  (try simp only [Act.put, List.setIfInBounds_toArray, List.set_cons_zero, List.set_cons_succ])
  refine wpAnyH_take (i := 9) (oi := { dst := some 452, op := Op.fieldAddr 62 (Operand.tmp 451) 3, type := 0, pos := "law.go:172", after := #[{ on := 8, ground := Ground.data }], guard := none }) (v := ?v1009) rfl (by kernel_rfl) (by kernel_rfl) (by kernel_rfl) (fun _ _ _ h => h) (Or.inl ⟨by rfl, ?hy1009⟩) hHeld ?_
  case hy1009 => (intro w hSw; (try dsimp only at hSw); go_simp; (try with_reducible rfl))
  (try simp only [Act.put, List.setIfInBounds_toArray, List.set_cons_zero, List.set_cons_succ])
  refine wpAnyH_take (i := 10) (oi := { dst := some 453, op := Op.load 28 (Operand.tmp 452), type := 28, pos := "law.go:172", after := #[{ on := 9, ground := Ground.data }], guard := none }) (v := (.int .u64 (f'.units : Int))) rfl (by kernel_rfl) (by kernel_rfl) (by kernel_rfl) (fun _ _ _ h => h) (Or.inl ⟨by rfl, fun w h => by have c9 := h.2; go_simp⟩) hHeld ?_
  (try simp only [Act.put, List.setIfInBounds_toArray, List.set_cons_zero, List.set_cons_succ])
  refine wpAnyH_ready (rs := [11]) (by kernel_rfl) (by simp) ?_
  refine AllReadyH.cons (o := { dst := some 454, op := Op.call { callee := Callee.value (Operand.func 22), args := #[Operand.tmp 443, Operand.tmp 448, Operand.tmp 453], argTypes := #[24, 27, 28] }, type := 35, pos := "law.go:172", after := #[{ on := 0, ground := Ground.data }, { on := 5, ground := Ground.data }, { on := 10, ground := Ground.data }], guard := none }) rfl (fun K hK => ?_) ?_
  go_simp; refine (UW _ (R3.out.mod.below (Below.refl _ _).drew)).out.mono ?_; rintro e w4 ⟨rfl, t4, fr4⟩; have T4 := hid t4; have F4 := hid fr4; clear t4 fr4
  refine hK.out _ _ (⟨(Keep.far' F4.out).range hHeld.1 GM, (Keep.far' F4.out).cell hHeld.2 GM⟩) (fun hHeld => ?_)
  clear hK K
  (try simp only [List.setIfInBounds_toArray, List.set_cons_zero, List.set_cons_succ])
  refine wpAnyH_done (by kernel_rfl) ?_ _
  rotate_left
  exact AllReadyH.nil
  all_goals
    have R4 := hid ((R3.out.below (Below.refl _ _).drew).model T4.out F4.out)
    have HX4 := hid ((HX3.out.below (Below.refl _ _).drew).model F4.out)
    have HY4 := hid ((HY3.out.below (Below.refl _ _).drew).model F4.out)
    have row4 : w4.rangeAt g (j * 204) f'.inn.cells := by have o := R4.out.own; rw [len'.out] at o; have := f'.hasIn.rng (own_fwd o OK3.out LS.out); simpa using this
    have hY4 := HY4.out.1.1
    have ial := hid (infoLl fok'.out.i)
    have iia := hid (infoLa fok'.out.i)
    have iiz := hid (show lz.cells.toArray.size = f'.inn.cells.toArray.size from zL_as fok'.out.i)
    have iio := hid (all_oneCell_toArray (Lg.one f'.inn))
    clear R3 HX3 HY3 T4 F4 hHeld rq ru
    go_outline
    go_wp2_with (first | with_reducible refine wpList_ld g (j * 204) f'.inn.cells row4 unL ial rfl rfl ?_ | with_reducible refine wpList_sr Y f'.inn.cells.toArray _ lz.cells.toArray iia iiz iio rfl rfl hY4 ?_)
    have q5 := setRow_heap w4 Y _ f'.inn.cells.toArray _ _ hY4
    have f5 := far_row w4 Y f'.inn.cells.toArray
    generalize w4.setRow Y f'.inn.cells.toArray = w5 at *
    exact ⟨rfl, v, _, L.set j f', _, 0, f'.inn, X, Y, ⟨rfl, rfl, rfl, rfl, rfl, rfl, rfl, rfl, rfl⟩, rfl, rfl, rfl, rfl, R4.out.far HY4.out f5, by rw [len'.out]; exact Nat.le_succ_of_le H.out.few, fok'.out.i, (HX4.out.far f5 H.out.ne.1).1.1, q5⟩
end Go.Proofs.YthccjefhlmngbaaDoor

/- EdgeRuns: the round's end: answers, forwards, quotes. -/
namespace Go.Proofs.YthccjefhlmngbaaDoor
open Go.RowKit

theorem getQ_okR {w : World} {tb mb n : Nat} {M : QM} (h : TabAt w tb mb M n) (no : List Nat) : ((M no).getD qz).ok := by
  cases hm : M no with
  | none => exact qz_ok
  | some q => exact h.ok no q hm
structure EndT (dl : Int) (qv sv : Value) (tb t2 eb : Nat) (va : Value) (k : Nat) (fa : Option Addr) (n fc i : Nat) (T : Array Value) : Prop where
  s : RSl dl qv sv tb t2 eb va k T
  t37 : tm T 37 = .slice fa n fc
  t514 : tm T 514 = .int .i64 (n : Int)
  t515 : tm T 515 = .int .i64 (i : Int)
def EndR (dl : Int) (qv sv : Value) (tb t2 eb : Nat) (va : Value) (k : Nat) (fa : Option Addr) (n fc : Nat) (w : World) (A : Act) (wr : World) : Prop :=
  ∃ i : Nat, A.defers = [] ∧ i ≤ n ∧ EndT dl qv sv tb t2 eb va k fa n fc i A.tmps ∧ Below w.heap.size w wr
structure EnqT (dl : Int) (qv sv : Value) (tb t2 eb : Nat) (va : Value) (k n i : Nat) (T : Array Value) : Prop where
  s : RSl dl qv sv tb t2 eb va k T
  t529 : tm T 529 = .int .i64 (n : Int)
  t530 : tm T 530 = .int .i64 (i : Int)
def EnqR (dl : Int) (qv sv : Value) (tb t2 eb : Nat) (va : Value) (k n : Nat) (w : World) (A : Act) (wr : World) : Prop :=
  ∃ i : Nat, A.defers = [] ∧ i ≤ n ∧ EnqT dl qv sv tb t2 eb va k n i A.tmps ∧ Below w.heap.size w wr
set_option maxRecDepth 1000000 in
set_option maxHeartbeats 16000000 in
theorem rend {w0 w : World} {eb tb mb t2 m2 : Nat} {dl : Int} {B nq : Nat} {v : Value} {L : List Fw} {M : QM} {va sv : Value} {qa : Option Addr} {ql qc : Nat} {k X Y : Nat} {c : Int} {lg : Lg} {T : Array Value} (s : RSl dl (.slice qa ql qc) sv tb t2 eb va k T) (e28 : tm T 28 = .int .i64 c) (e29 : tm T 29 = .int .i64 c) (e30 : tm T 30 = .pointer (some ⟨X, 0, none⟩)) (e31 : tm T 31 = .pointer (some ⟨Y, 0, none⟩))
    (run : RunJ w0 w eb tb mb t2 m2 dl B nq v L M va L M) (few : L.length ≤ k + 1) (k60 : k < 60) (lok : lg.ok) (hX : w.heap[X]? = some (.cells lg.cells.toArray 42 (0, 0))) (hY : w.heap[Y]? = some (.cells lg.cells.toArray 42 (0, 0))) (hq : ql ≤ 6) :
    (rnP 89).wp Tryd.prog (RndO w0 eb tb mb t2 m2 dl B nq (.slice qa ql qc) sv k) ⟨T, []⟩ w := by
  have RUN := hid run
  have FEW := hid (And.intro few k60)
  have HQ := hid hq
  obtain ⟨aa, ac, rfl, rd⟩ := Rd.of_owns run.own
  have unL := Tryd.underlying42
  have unF := Tryd.underlying62
  have unQ := Tryd.underlying48
  have ZQ := zeroQ
  have lal := hid (infoLl lok)
  have ls := leg_self lok
  have lgd := leg_guard lg lg
  have rx := row_range hX
  have ry := row_range hY
  rw [frameR s.size, s.t0, s.t1, s.t02, s.t7, s.t8, s.t9, s.t17, s.t18, e28, e29, e30, e31]
  clear s e28 e29 e30 e31 run few k60 lok hX hY hq rd
  conv => arg 2; whnf
  have tc : ((c : Int) != (c : Int)) = false := by simp
  go_upto_region 91 with (first | with_reducible refine wpList_ldG X 0 lg.cells rx unL lal rfl rfl rfl ?_ | with_reducible refine wpList_ldG Y 0 lg.cells ry unL lal rfl rfl rfl ?_)
  clear ls lgd rx ry tc
  go_wp2_with (fail)
  refine (eall_walk eb tb B dl v L w RUN.out.ses.s.e).mono ?_
  rintro e w1 ⟨fa, fc, rfl, ⟨hF, -⟩, b1⟩
  have FW := hid hF
  have B1 := hid b1
  have AW := hid (show Fwds w aa L.length ac L from by
    obtain ⟨a', c', e', rd'⟩ := Rd.of_owns RUN.out.own
    simp only [Value.slice.injEq] at e'
    obtain ⟨rfl, _, rfl⟩ := e'
    exact ⟨rfl, rd', RUN.out.ses.s.e.ok⟩)
  clear hF b1
  have tl : (((L.length : Nat) : Int) != ((L.length : Nat) : Int)) = false := by simp
  have tl2 : ((L.length : Nat) != L.length) = false := by simp
  go_upto_region 95 with (fail)
  refine wp_loop (EndR dl (.slice qa ql qc) sv tb t2 eb (.slice aa L.length ac) k fa L.length fc w1) (fun A _ => 62 - (intOf (tm A.tmps 515)).toNat) ⟨0, rfl, by omega, ⟨⟨rfl, rfl, rfl, rfl, rfl, rfl, rfl, rfl, rfl⟩, rfl, rfl, rfl⟩, Below.refl _ _⟩ ?_
  rintro ⟨T, df⟩ wr ⟨i, hd, hi, hT, hb⟩
  dsimp only at hd hT
  subst hd
  have BB := hid hb
  show Code.wp _ _ _ ⟨T, []⟩ wr
  rw [frameR hT.s.size, hT.s.t0, hT.s.t1, hT.s.t02, hT.s.t7, hT.s.t8, hT.s.t9, hT.s.t17, hT.s.t18, hT.t37, hT.t514, hT.t515]
  clear hT hb
  have l61 : L.length ≤ 60 := by have := FEW.out; omega
  by_cases hlt : i < L.length
  case pos =>
    have t1 : decide (i < L.length) = true := decide_eq_true hlt
    obtain ⟨b5, off5, f, ha5, hfj, row5, fok⟩ := (FW.out.below BB.out).get hlt
    obtain ⟨b6, off6, f6, ha6, hfj6, row6, fok6⟩ := (AW.out.below (bstep B1.out BB.out)).get hlt
    obtain rfl := Option.some.inj (hfj.symm.trans hfj6)
    subst ha5
    subst ha6
    have fil := hid (infoFl fok)
    have fs := fw_self fok
    have fg := fw_guard f f
    have i61 : i < 61 := by omega
    have tw : wrap64 ((i : Int) + 1) = ((i + 1 : Nat) : Int) := by unfold wrap64; omega
    clear hfj hfj6 fok fok6
    go_upto_region 97 with (fail)
    refine wp_region_held_drew (S := fun w' => Below wr.heap.size wr w') (by kernel_rfl) ((Below.refl _ _).drew) (fun hHeld => ?_)
    try simp only [List.size_toArray, List.length_cons, List.length_nil, Nat.reduceAdd, Array.replicate_succ, Array.replicate_zero, List.push_toArray, List.nil_append, List.cons_append]
    refine wpAnyH_take (i := 0) (oi := { dst := some 518, op := Op.move (Operand.tmp 37), type := 51, pos := "law.go:194", after := #[], guard := none }) (v := ?v1001) rfl (by kernel_rfl) (by kernel_rfl) (by kernel_rfl) (fun _ _ _ h => h) (Or.inl ⟨by rfl, ?hy1001⟩) hHeld ?_
    case hy1001 => (intro w hSw; (try dsimp only at hSw); go_simp; (try with_reducible rfl))
    (try simp only [Act.put, List.setIfInBounds_toArray, List.set_cons_zero, List.set_cons_succ])
    refine wpAnyH_take (i := 1) (oi := { dst := some 519, op := Op.move (Operand.tmp 38), type := 3, pos := "law.go:194", after := #[], guard := none }) (v := ?v1002) rfl (by kernel_rfl) (by kernel_rfl) (by kernel_rfl) (fun _ _ _ h => h) (Or.inl ⟨by rfl, ?hy1002⟩) hHeld ?_
    case hy1002 => (intro w hSw; (try dsimp only at hSw); go_simp; (try with_reducible rfl))
    (try simp only [Act.put, List.setIfInBounds_toArray, List.set_cons_zero, List.set_cons_succ])
    refine wpAnyH_take (i := 2) (oi := { dst := some 520, op := Op.indexAddr 51 (Operand.tmp 518) (Operand.tmp 519), type := 0, pos := "law.go:194", after := #[{ on := 0, ground := Ground.data }, { on := 1, ground := Ground.data }], guard := none }) (v := ?v1003) rfl (by kernel_rfl) (by kernel_rfl) (by kernel_rfl) (fun _ _ _ h => h) (Or.inl ⟨by rfl, ?hy1003⟩) hHeld ?_
    case hy1003 => (intro w hSw; (try dsimp only at hSw); go_simp; (try with_reducible rfl))
    (try simp only [Act.put, List.setIfInBounds_toArray, List.set_cons_zero, List.set_cons_succ])
    refine' wpAnyH_take (i := 3) (oi := { dst := some 521, op := Op.load 62 (Operand.tmp 520), type := 62, pos := "law.go:194", after := #[{ on := 2, ground := Ground.data }], guard := none }) (v := _) rfl (by kernel_rfl) (by kernel_rfl) (by kernel_rfl) (fun _ _ _ h => h) (yieldsIf_load_mid (by rfl) _ _ rfl b5 (off5 + i * 204) rfl f.cells _ (fun _ h => range_keep h row5) unF rfl fil.out) hHeld ?_
    (try simp only [Act.put, List.setIfInBounds_toArray, List.set_cons_zero, List.set_cons_succ])
    refine wpAnyH_take (i := 4) (oi := { dst := some 522, op := Op.move (Operand.tmp 17), type := 51, pos := "law.go:194", after := #[], guard := none }) (v := ?v1004) rfl (by kernel_rfl) (by kernel_rfl) (by kernel_rfl) (fun _ _ _ h => h) (Or.inl ⟨by rfl, ?hy1004⟩) hHeld ?_
    case hy1004 => (intro w hSw; (try dsimp only at hSw); go_simp; (try with_reducible rfl))
    (try simp only [Act.put, List.setIfInBounds_toArray, List.set_cons_zero, List.set_cons_succ])
    refine wpAnyH_take (i := 5) (oi := { dst := some 523, op := Op.move (Operand.tmp 38), type := 3, pos := "law.go:194", after := #[], guard := none }) (v := ?v1005) rfl (by kernel_rfl) (by kernel_rfl) (by kernel_rfl) (fun _ _ _ h => h) (Or.inl ⟨by rfl, ?hy1005⟩) hHeld ?_
    case hy1005 => (intro w hSw; (try dsimp only at hSw); go_simp; (try with_reducible rfl))
    (try simp only [Act.put, List.setIfInBounds_toArray, List.set_cons_zero, List.set_cons_succ])
    refine wpAnyH_take (i := 6) (oi := { dst := some 524, op := Op.indexAddr 51 (Operand.tmp 522) (Operand.tmp 523), type := 0, pos := "law.go:194", after := #[{ on := 4, ground := Ground.data }, { on := 5, ground := Ground.data }], guard := none }) (v := ?v1006) rfl (by kernel_rfl) (by kernel_rfl) (by kernel_rfl) (fun _ _ _ h => h) (Or.inl ⟨by rfl, ?hy1006⟩) hHeld ?_
    case hy1006 => (intro w hSw; (try dsimp only at hSw); go_simp; (try with_reducible rfl))
    (try simp only [Act.put, List.setIfInBounds_toArray, List.set_cons_zero, List.set_cons_succ])
    refine' wpAnyH_take (i := 7) (oi := { dst := some 525, op := Op.load 62 (Operand.tmp 524), type := 62, pos := "law.go:194", after := #[{ on := 6, ground := Ground.data }], guard := none }) (v := _) rfl (by kernel_rfl) (by kernel_rfl) (by kernel_rfl) (fun _ _ _ h => h) (yieldsIf_load_mid (by rfl) _ _ rfl b6 (off6 + i * 204) rfl f.cells _ (fun _ h => range_keep h row6) unF rfl fil.out) hHeld ?_
    (try simp only [Act.put, List.setIfInBounds_toArray, List.set_cons_zero, List.set_cons_succ])
    refine wpAnyH_take (i := 8) (oi := { dst := some 526, op := Op.binOp BinOp.neq 62 (Operand.tmp 521) (Operand.tmp 525) 62, type := 4, pos := "law.go:194", after := #[{ on := 3, ground := Ground.data }, { on := 7, ground := Ground.data }], guard := none }) (v := ?v1007) rfl (by kernel_rfl) (by kernel_rfl) (by kernel_rfl) (fun _ _ _ h => h) (Or.inl ⟨by rfl, ?hy1007⟩) hHeld ?_
    case hy1007 => (intro w hSw; (try dsimp only at hSw); go_simp; (try with_reducible rfl))
    (try simp only [Act.put, List.setIfInBounds_toArray, List.set_cons_zero, List.set_cons_succ])
    refine wpAnyH_done (by kernel_rfl) ?_ _
    rotate_left
    all_goals
      have BE := hid (BB.out.trans (hHeld.mono BB.out.size))
      clear hHeld fs fg row5 row6
      go_wp2_with (fail)
      refine ⟨⟨i + 1, rfl, by omega, ⟨⟨rfl, rfl, rfl, rfl, rfl, rfl, rfl, rfl, rfl⟩, rfl, rfl, by simp only [tm]; go_num⟩, BE.out⟩, by show 62 - ((i : Int) + 1).toNat < 62 - ((i : Int)).toNat; omega⟩
  case neg =>
    have t1 : decide (i < L.length) = false := decide_eq_false hlt
    have BW := hid (bstep B1.out BB.out)
    clear FW AW B1 BB
    go_upto_region 101 with (fail)
    refine wp_loop (EnqR dl (.slice qa ql qc) sv tb t2 eb (.slice aa L.length ac) k ql w) (fun A _ => 62 - (intOf (tm A.tmps 530)).toNat) ⟨0, rfl, by omega, ⟨⟨rfl, rfl, rfl, rfl, rfl, rfl, rfl, rfl, rfl⟩, rfl, rfl⟩, BW.out⟩ ?_
    clear BW t1 hlt
    rintro ⟨T, df⟩ wr ⟨i, hd, hi, hT, hb⟩
    dsimp only at hd hT
    subst hd
    have BB := hid hb
    show Code.wp _ _ _ ⟨T, []⟩ wr
    rw [frameR hT.s.size, hT.s.t0, hT.s.t1, hT.s.t02, hT.s.t7, hT.s.t8, hT.s.t9, hT.s.t17, hT.s.t18, hT.t529, hT.t530]
    clear hT hb
    by_cases hlt : i < ql
    case pos =>
      have t1 : decide (i < ql) = true := decide_eq_true hlt
      have i61 : i < 61 := by have := HQ.out; omega
      have tw : wrap64 ((i : Int) + 1) = ((i + 1 : Nat) : Int) := by unfold wrap64; omega
      obtain ⟨nb, hnb, rb⟩ := wrap8 (i : Int)
      have NB := hid hnb
      have bHn := bhx nb
      clear hnb
      go_upto_region 103 with (fail)
      go_wp2_with (with_reducible refine wpList_mk1 bHn rfl ?_)
      refine (tget_walk tb mb nq M (hbx nb) (hbx_ok NB.out) wr (RUN.out.below BB.out).ses.s.t).mono ?_
      rintro e w5 ⟨rfl, b5⟩
      have B5 := hid (bstep BB.out b5)
      have qk := hid (getQ_okR RUN.out.ses.s.t (hbx nb))
      obtain ⟨bo, hbo⟩ : ∃ bo, (M (hbx nb)).isSome = bo := ⟨_, rfl⟩
      obtain ⟨q, hqq⟩ : ∃ q, (M (hbx nb)).getD qz = q := ⟨_, rfl⟩
      rw [hbo, hqq]
      rw [hqq] at qk
      have qia := hid (infoQa qk.out)
      have qil := hid (infoQl qk.out)
      have qiz := hid (zQ_as qk.out)
      have qio := hid (all_oneCell_toArray (Quo.one q))
      have EB := hid (And.intro hbo hqq)
      clear b5 BB hbo hqq
      go_upto_region 104 with (first | (with_reducible refine wpList_var q.cells.toArray _ ZQ qia qiz qio rfl rfl ?_; intro w6 hI hb6))
      have B6 := hid (bstep B5.out hb6)
      obtain ⟨G, hG⟩ : ∃ G, G = w5.heap.size := ⟨_, rfl⟩
      rw [← hG] at hI ⊢
      have HI := hid hI
      clear hI hb6 hG B5
      go_wp2_with (with_reducible refine wpList_mk1 bHn rfl ?_)
      refine (tget_walk t2 m2 nq M (hbx nb) (hbx_ok NB.out) w6 (RUN.out.below B6.out).mod).mono ?_
      rintro e w7 ⟨rfl, b7⟩
      rw [EB.out.1, EB.out.2]
      have B7 := hid (bstep B6.out b7)
      have HI7 := hid (heap_keep HI.out b7)
      clear b7 HI B6
      go_upto_region 105 with (first | (with_reducible refine wpList_var q.cells.toArray _ ZQ qia qiz qio rfl rfl ?_; intro w8 hI hb8))
      have B8 := hid (bstep B7.out hb8)
      have q1 := row_range (heap_keep HI7.out hb8)
      obtain ⟨G2, hG⟩ : ∃ G2, G2 = w7.heap.size := ⟨_, rfl⟩
      rw [← hG] at hI ⊢
      have q2 := row_range hI
      have qs := quo_self qk.out
      have qg := quo_guard q
      have tb' : (bo != bo) = false := by simp
      clear hI hb8 hG B7 HI7 EB
      go_wp2_with (first | with_reducible refine wpList_ld G 0 q.cells q1 unQ qil rfl rfl ?_ | with_reducible refine wpList_ld G2 0 q.cells q2 unQ qil rfl rfl ?_)
      clear qs qg
      refine ⟨⟨i + 1, rfl, by omega, ⟨⟨rfl, rfl, rfl, rfl, rfl, rfl, rfl, rfl, rfl⟩, rfl, by simp only [tm]; go_num⟩, B8.out⟩, by show 62 - ((i : Int) + 1).toNat < 62 - ((i : Int)).toNat; omega⟩
    case neg =>
      have t1 : decide (i < ql) = false := decide_eq_false hlt
      go_wp2_with (fail)
      exact ⟨rfl, v, _, L, M, ⟨rfl, rfl, rfl, rfl, rfl, rfl, rfl, rfl, rfl⟩, RUN.out.below BB.out, FEW.out.1⟩
end Go.Proofs.YthccjefhlmngbaaDoor

/- The edge's functions at nil. -/
namespace Go.Proofs.YthccjefhlmngbaaDoor
open Go.RowKit

set_option maxRecDepth 100000 in
set_option maxHeartbeats 4000000 in
theorem given_nil (line no : Int) (w : World) : Calls Tryd.prog 13 #[.pointer none, .int .i64 line, .int .i64 no] w fun e w' => e = .returned (.tuple #[.agg zL, .int .i64 1]) ∧ Below w.heap.size w w' := by
  have ZL := zeroL
  have hneL := zL_ne
  have A1 := hid (heap_alloc_new w (.cells zL 42))
  have B1 := hid ((Below.refl w.heap.size w).alloc (Nat.le_refl _) (.cells zL 42))
  have hzi := hid (show (Tryd.prog.info? 42).map (·.size) = some zL.size by rw [zL_size]; exact infoL)
  have hzo := hid (show zL.all (·.oneCell') = true from all_oneCell_toArray (Lg.one lz))
  go_enter Tryd.func13, Tryd.ntmps13
  go_upto_region 1 with (fail)
  show Code.wp _ _ _ _ (w.alloc (.cells zL 42))
  generalize w.alloc (.cells zL 42) = w1 at *
  have A1' := A1.out
  go_wp2_with (refine wpList_store_row rfl _ _ _ rfl w.heap.size zL rfl rfl _ _ A1' hzi.out rfl hzo.out ?_)
  have q1 := setRow_heap w1 w.heap.size _ zL _ _ A1'
  refine bodyPost_ret (results_cell_tmp rfl _ _ w.heap.size _ zL _ _ _ rfl rfl q1 Tryd.underlying42 rfl hzi.out) rfl ?_
  exact ⟨rfl, B1.out.trans ((far_row w1 w.heap.size zL).below (Nat.le_refl _) B1.out.size)⟩
set_option maxRecDepth 100000 in
set_option maxHeartbeats 4000000 in
theorem close_nil (line no : Int) (w : World) : Calls Tryd.prog 17 #[.pointer none, .int .i64 line, .int .i64 no] w fun e w' => e = .returned (.int .i64 1) ∧ w' = w := by
  go_enter Tryd.func17, Tryd.ntmps17
  go_wp2_with (fail)
  go_ret
  exact ⟨rfl, rfl⟩
set_option maxRecDepth 100000 in
set_option maxHeartbeats 4000000 in
theorem settled_nil (line no : Int) (xs : Array Value) (w : World) : Calls Tryd.prog 18 #[.pointer none, .int .i64 line, .int .i64 no, .agg xs] w fun e w' => e = .returned (.tuple #[.agg zL, .int .i64 1]) ∧ Below w.heap.size w w' := by
  have ZL := zeroL
  have hneL := zL_ne
  have A2 := alloc2p w (.cells xs 27) (.cells zL 42)
  have A1 := hid A2.2.1
  have B1 := hid A2.2.2.2
  have hzi := hid (show (Tryd.prog.info? 42).map (·.size) = some zL.size by rw [zL_size]; exact infoL)
  have hzo := hid (show zL.all (·.oneCell') = true from all_oneCell_toArray (Lg.one lz))
  clear A2
  go_enter Tryd.func18, Tryd.ntmps18
  go_upto_region 1 with (fail)
  show Code.wp _ _ _ _ ((w.alloc (.cells xs 27)).alloc (.cells zL 42))
  generalize (w.alloc (.cells xs 27)).alloc (.cells zL 42) = w1 at *
  have A1' := A1.out
  go_wp2_with (refine wpList_store_row rfl _ _ _ rfl (w.heap.size + 1) zL rfl rfl _ _ A1' hzi.out rfl hzo.out ?_)
  have q1 := setRow_heap w1 (w.heap.size + 1) _ zL _ _ A1'
  refine bodyPost_ret (results_cell_tmp rfl _ _ (w.heap.size + 1) _ zL _ _ _ rfl rfl q1 Tryd.underlying42 rfl hzi.out) rfl ?_
  exact ⟨rfl, B1.out.trans ((far_row w1 (w.heap.size + 1) zL).below (by omega) B1.out.size)⟩
set_option maxRecDepth 100000 in
set_option maxHeartbeats 4000000 in
theorem hand_nil (xs ys zs : Array Value) (h : Int) (w : World) : Calls Tryd.prog 12 #[.pointer none, .agg xs, .agg ys, .agg zs, .int .i64 h] w fun e w' => e = .returned (.int .i64 1) ∧ Below w.heap.size w w' := by
  have B1 := hid (alloc3p w (.cells xs 42) (.cells ys 42) (.cells zs 27)).2.2.2
  go_enter Tryd.func12, Tryd.ntmps12
  go_wp2_with (fail)
  go_ret
  exact ⟨rfl, B1.out⟩
end Go.Proofs.YthccjefhlmngbaaDoor
