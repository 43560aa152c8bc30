/- What a genesis' bytes are read as; two builds. Printed in part by a program. -/
import Derived.Test.YtgaidleepjkldaaGenE
namespace Go.Proofs.Ytgaidleepjkldaa
open Go.RowKit

def gz : Gen := ⟨pzero, 0, [], pzero, 0⟩
/-- the genesis that four records are, or why they are none -/
def fourG (r0 r1 r2 r3 : Pr) : Gen × Nat :=
  if r0.1 ≠ 0 ∨ r1.1 ≠ 2 ∨ r2.1 ≠ 4 ∨ r3.1 ≠ 6 then (gz, 23) else if r2.2.length ≠ 32 ∨ r3.2.length ≠ 1 then (gz, 21) else if (getP r0.2).2.2 ≠ 0 then (gz, (getP r0.2).2.2) else
  if (Gen.mk (getP r0.2).1 ((getP r0.2).2.1 : Nat) r1.2 r2.2 ((r3.2.getD 0 0 : Nat))).check ≠ 0 then (gz, (Gen.mk (getP r0.2).1 ((getP r0.2).2.1 : Nat) r1.2 r2.2 ((r3.2.getD 0 0 : Nat))).check) else (Gen.mk (getP r0.2).1 ((getP r0.2).2.1 : Nat) r1.2 r2.2 ((r3.2.getD 0 0 : Nat)), 0)
def recsG : List Pr → Gen × Nat
  | [r0, r1, r2, r3] => fourG r0 r1 r2 r3
  | _ => (gz, 21)
def decG (bs : List Nat) : Gen × Nat := if (decS bs).2 ≠ 0 then (gz, (decS bs).2) else recsG (decS bs).1
theorem recsG_len {rs : List Pr} (h : rs.length ≠ 4) : recsG rs = (gz, 21) := by
  match rs, h with
  | [], _ => rfl
  | [_], _ => rfl
  | [_, _], _ => rfl
  | [_, _, _], _ => rfl
  | [_, _, _, _], h => exact absurd rfl h
  | _ :: _ :: _ :: _ :: _ :: _, _ => rfl
theorem gz_cells : (gz.cells none 0).toArray = genZ 0 := by
  have h : Value.agg (gz.cells none 0).toArray = .agg (genZ 0) := by kernel_rfl
  exact Value.agg.inj h
theorem gz_good (w : World) : gz.good w none 0 := ⟨rfl, by intro d hd; simp [gz, pzero] at hd; omega, rfl, by intro d hd; simp [gz, pzero] at hd; omega, by simp [gz], by decide, by decide, by decide, Sl.nilS _ _ (by decide) (fun _ => rfl)⟩
def GDec (w : World) (bs : List Nat) (e : Ending) (w' : World) : Prop := ∃ a c, e = .returned (.tuple #[.agg ((decG bs).1.cells a c).toArray, .int .i64 (((decG bs).2 : Nat) : Int)]) ∧ (decG bs).1.good w' a c ∧ Below w.heap.size w w'
theorem GDec.bad {w w' : World} {bs : List Nat} {z : Int} {k : Nat} (h : decG bs = (gz, k)) (hz : z = (k : Int)) (b : Below w.heap.size w w') : GDec w bs (.returned (.tuple #[.agg (genZ 0), .int .i64 z])) w' :=
  ⟨none, 0, by rw [h, ← gz_cells, hz], by rw [h]; exact gz_good w', b⟩
theorem built_gen' (a0 a1 a2 a3 a4 a5 a6 a7 a8 a9 a10 a11 a12 a13 a14 a15 a16 a17 a18 a19 a20 a21 a22 a23 a24 a25 a26 a27 a28 a29 a30 a31 b0 b1 b2 b3 b4 b5 b6 b7 b8 b9 b10 b11 b12 b13 b14 b15 b16 b17 b18 b19 b20 b21 b22 b23 b24 b25 b26 b27 b28 b29 b30 b31 : Nat) (n c : Nat) (p : Option Addr) (o k : Int) : Try.prog.built 28 [(0, .agg ((nums .u8 [a0, a1, a2, a3, a4, a5, a6, a7, a8, a9, a10, a11, a12, a13, a14, a15, a16, a17, a18, a19, a20, a21, a22, a23, a24, a25, a26, a27, a28, a29, a30, a31]) ++ [Value.int .i64 o]).toArray), (1, .slice p n c), (2, .agg (nums .u8 [b0, b1, b2, b3, b4, b5, b6, b7, b8, b9, b10, b11, b12, b13, b14, b15, b16, b17, b18, b19, b20, b21, b22, b23, b24, b25, b26, b27, b28, b29, b30, b31]).toArray), (3, .int .i64 k)] = some (((nums .u8 [a0, a1, a2, a3, a4, a5, a6, a7, a8, a9, a10, a11, a12, a13, a14, a15, a16, a17, a18, a19, a20, a21, a22, a23, a24, a25, a26, a27, a28, a29, a30, a31]) ++ [Value.int .i64 o]) ++ [Value.slice p n c] ++ (nums .u8 [b0, b1, b2, b3, b4, b5, b6, b7, b8, b9, b10, b11, b12, b13, b14, b15, b16, b17, b18, b19, b20, b21, b22, b23, b24, b25, b26, b27, b28, b29, b30, b31]) ++ [Value.int .i64 k]).toArray := by kernel_rfl
theorem built_gen (g : Gen) (a : Option Addr) (c : Nat) (h1 : g.tx.length = 32) (h2 : g.me.length = 32) :
    Try.prog.built 28 [(0, .agg (nums .u8 g.tx ++ [Value.int .i64 g.out]).toArray), (1, .slice a g.nm.length c), (2, .agg (nums .u8 g.me).toArray), (3, .int .i64 g.kind)] = some (g.cells a c).toArray := by
  obtain ⟨tx, o, nm, me, k⟩ := g
  match tx, h1, me, h2 with
  | [a0, a1, a2, a3, a4, a5, a6, a7, a8, a9, a10, a11, a12, a13, a14, a15, a16, a17, a18, a19, a20, a21, a22, a23, a24, a25, a26, a27, a28, a29, a30, a31], _, [b0, b1, b2, b3, b4, b5, b6, b7, b8, b9, b10, b11, b12, b13, b14, b15, b16, b17, b18, b19, b20, b21, b22, b23, b24, b25, b26, b27, b28, b29, b30, b31], _ => exact built_gen' a0 a1 a2 a3 a4 a5 a6 a7 a8 a9 a10 a11 a12 a13 a14 a15 a16 a17 a18 a19 a20 a21 a22 a23 a24 a25 a26 a27 a28 a29 a30 a31 b0 b1 b2 b3 b4 b5 b6 b7 b8 b9 b10 b11 b12 b13 b14 b15 b16 b17 b18 b19 b20 b21 b22 b23 b24 b25 b26 b27 b28 b29 b30 b31 nm.length c a o k
theorem built_rgen' (a0 a1 a2 a3 a4 a5 a6 a7 a8 a9 a10 a11 a12 a13 a14 a15 a16 a17 a18 a19 a20 a21 a22 a23 a24 a25 a26 a27 a28 a29 a30 a31 b0 b1 b2 b3 b4 b5 b6 b7 b8 b9 b10 b11 b12 b13 b14 b15 b16 b17 b18 b19 b20 b21 b22 b23 b24 b25 b26 b27 b28 b29 b30 b31 : Nat) (n c : Nat) (p : Option Addr) (o k : Int) : Try.prog.built 46 [(0, .agg (nums .u8 [a0, a1, a2, a3, a4, a5, a6, a7, a8, a9, a10, a11, a12, a13, a14, a15, a16, a17, a18, a19, a20, a21, a22, a23, a24, a25, a26, a27, a28, a29, a30, a31]).toArray), (1, .int .i64 o), (2, .slice p n c), (3, .agg (nums .u8 [b0, b1, b2, b3, b4, b5, b6, b7, b8, b9, b10, b11, b12, b13, b14, b15, b16, b17, b18, b19, b20, b21, b22, b23, b24, b25, b26, b27, b28, b29, b30, b31]).toArray), (4, .int .i64 k)] = some (((nums .u8 [a0, a1, a2, a3, a4, a5, a6, a7, a8, a9, a10, a11, a12, a13, a14, a15, a16, a17, a18, a19, a20, a21, a22, a23, a24, a25, a26, a27, a28, a29, a30, a31]) ++ [Value.int .i64 o]) ++ [Value.slice p n c] ++ (nums .u8 [b0, b1, b2, b3, b4, b5, b6, b7, b8, b9, b10, b11, b12, b13, b14, b15, b16, b17, b18, b19, b20, b21, b22, b23, b24, b25, b26, b27, b28, b29, b30, b31]) ++ [Value.int .i64 k]).toArray := by kernel_rfl
theorem built_rgen (g : Gen) (a : Option Addr) (c : Nat) (h1 : g.tx.length = 32) (h2 : g.me.length = 32) :
    Try.prog.built 46 [(0, .agg (nums .u8 g.tx).toArray), (1, .int .i64 g.out), (2, .slice a g.nm.length c), (3, .agg (nums .u8 g.me).toArray), (4, .int .i64 g.kind)] = some (g.cells a c).toArray := by
  obtain ⟨tx, o, nm, me, k⟩ := g
  match tx, h1, me, h2 with
  | [a0, a1, a2, a3, a4, a5, a6, a7, a8, a9, a10, a11, a12, a13, a14, a15, a16, a17, a18, a19, a20, a21, a22, a23, a24, a25, a26, a27, a28, a29, a30, a31], _, [b0, b1, b2, b3, b4, b5, b6, b7, b8, b9, b10, b11, b12, b13, b14, b15, b16, b17, b18, b19, b20, b21, b22, b23, b24, b25, b26, b27, b28, b29, b30, b31], _ => exact built_rgen' a0 a1 a2 a3 a4 a5 a6 a7 a8 a9 a10 a11 a12 a13 a14 a15 a16 a17 a18 a19 a20 a21 a22 a23 a24 a25 a26 a27 a28 a29 a30 a31 b0 b1 b2 b3 b4 b5 b6 b7 b8 b9 b10 b11 b12 b13 b14 b15 b16 b17 b18 b19 b20 b21 b22 b23 b24 b25 b26 b27 b28 b29 b30 b31 nm.length c a o k
theorem zeroRGen (w : World) : (zeroValue 46).run Try.prog w = .ok (.agg (genZ 0)) w := by
  have h : (Try.prog.info? 46).map (·.zero) = some (some (.agg (genZ 0))) := by kernel_rfl
  cases hi : Try.prog.info? 46 with
  | none => rw [hi] at h; cases h
  | some i =>
    rw [hi] at h
    simp only [Option.map_some, Option.some.injEq] at h
    simp [zeroValue, typeInfo, hi, h]
theorem infoRGen : (Try.prog.info? 46).map (·.size) = some 67 := by kernel_rfl
theorem genZ_one : (genZ 0).all (·.oneCell') = true := by kernel_rfl
theorem run_buildN {P : Program} {w : World} {o : Oper} {ev : Operand → Value} {t : TypeId} {parts : Array (Nat × Operand)} {cells : Array Value} (ho : o.op = .build t parts) (hb : P.built t (parts.map fun (i, x) => (i, ev x)).toList = some cells) :
    (execOp ev o).run P w = .ok (.value (.agg cells)) w := by
  unfold execOp
  simp only [ho, Sem.run_bind, run_build w t _ cells hb, Result.andThen_ok]
  rfl
theorem run_build4 {P : Program} {w : World} {o : Oper} {ev : Operand → Value} {t : TypeId} {x0 x1 x2 x3 : Operand} {v0 v1 v2 v3 : Value} {cells : Array Value} (ho : o.op = .build t #[(0, x0), (1, x1), (2, x2), (3, x3)])
    (h0 : ev x0 = v0) (h1 : ev x1 = v1) (h2 : ev x2 = v2) (h3 : ev x3 = v3) (hb : P.built t [(0, v0), (1, v1), (2, v2), (3, v3)] = some cells) : (execOp ev o).run P w = .ok (.value (.agg cells)) w :=
  run_buildN ho (by simpa [h0, h1, h2, h3] using hb)
theorem run_build5 {P : Program} {w : World} {o : Oper} {ev : Operand → Value} {t : TypeId} {x0 x1 x2 x3 x4 : Operand} {v0 v1 v2 v3 v4 : Value} {cells : Array Value} (ho : o.op = .build t #[(0, x0), (1, x1), (2, x2), (3, x3), (4, x4)])
    (h0 : ev x0 = v0) (h1 : ev x1 = v1) (h2 : ev x2 = v2) (h3 : ev x3 = v3) (h4 : ev x4 = v4) (hb : P.built t [(0, v0), (1, v1), (2, v2), (3, v3), (4, v4)] = some cells) : (execOp ev o).run P w = .ok (.value (.agg cells)) w :=
  run_buildN ho (by simpa [h0, h1, h2, h3, h4] using hb)
end Go.Proofs.Ytgaidleepjkldaa
