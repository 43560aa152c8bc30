/- Slices of bytes: their type's rows, strings made of them. -/
import Derived.Laws.BytesArg
import Derived.Stop.BytesEq
import Derived.Laws.Tables
import Derived.Test.YtnbmpgballopeaaDoorZOnce
namespace Go.Proofs.YtnbmpgballopeaaDoor
open Go.RowKit
theorem infoU8 : (Tryd.prog.info? 5).map (fun i => (i.zero, i.size, i.bytes)) = some (some (.int .u8 0), 1, 1) := by kernel_rfl
theorem tyBs : SliceTy Tryd.prog 22 5 1 1 (.int .u8 0) := .mk' Tryd.underlying22 infoU8 rfl (by decide)
def bytesOf (xs : List Nat) : ByteArray := strOfNums (xs.map (fun (d : Nat) => (d : Int)))
theorem conv_bytes {P : Program} {w : World} {a : Option Addr} {n cap : Nat} {xs : List Nat} (h : Sl .u8 w a n cap xs) {src e dst : TypeId} (hs : P.underlying src = some (.slice e)) (he : P.underlying e = some (.int .u8)) (hd : P.underlying dst = some .string) :
  (convert src dst (.slice a n cap)).run P w = .ok (.string (bytesOf xs)) w := by
 have hl := h.len
 have h2 := h.2.1
 have h4 := h.2.2.2.1
 obtain ⟨b, off, ha, hc⟩ := h.opened
 cases a with
 | none =>
  have := h4 rfl
  obtain rfl : n = 0 := by omega
  have hx : xs = [] := List.eq_nil_of_length_eq_zero hl
  subst hx
  exact run_convert_bytes_nil w src e hs he 0 cap dst hd
 | some x =>
  rcases Nat.eq_zero_or_pos n with h0 | h0
  ·subst h0
   have hx : xs = [] := List.eq_nil_of_length_eq_zero hl
   subst hx
   have hld := run_loadCells_list (P := P) w x [] (fun j v hj => by simp at hj)
   rw [run_convert_bytes_string w src dst e _ 0 cap hs he hd, run_bytesToString w x 0 cap [] hld]
   rfl
  ·have := ha h0
   simp only [Option.some.injEq] at this
   subst this
   refine run_convert_bytes_arg w src e hs he b off n cap _ (by simpa using hl) (fun i hi => ?_) dst hd
   rw [hc i hi]
   simp [List.getElem?_eq_getElem (show i < xs.length by omega)]
theorem bytesOf_toList (xs : List Nat) : (bytesOf xs).toList = xs.map (fun d => UInt8.ofNat d) := by
 rw [ByteArray.toList_eq]
 simp [bytesOf, strOfNums, List.map_map]
theorem map_u8_inj {xs ys : List Nat} (hx : ∀ d ∈ xs, d < 256) (hy : ∀ d ∈ ys, d < 256) (h : xs.map (fun d => UInt8.ofNat d) = ys.map (fun d => UInt8.ofNat d)) : xs = ys := by
 induction xs generalizing ys with
 | nil => cases ys with
  | nil => rfl
  | cons y r => simp at h
 | cons x r ih => cases ys with
  | nil => simp at h
  | cons y t =>
   simp only [List.map_cons, List.cons.injEq] at h
   have h1 := hx x (by simp)
   have h2 := hy y (by simp)
   have h3 : x = y := by
    have := congrArg UInt8.toNat h.1
    simp at this
    omega
   rw [h3, ih (fun d hd => hx d (by simp [hd])) (fun d hd => hy d (by simp [hd])) h.2]
theorem bytesOf_eq {xs ys : List Nat} (hx : ∀ d ∈ xs, d < 256) (hy : ∀ d ∈ ys, d < 256) : ((bytesOf xs).toList == (bytesOf ys).toList) = decide (xs = ys) := by
 rw [bytesOf_toList, bytesOf_toList, Bool.eq_iff_iff, beq_iff_eq, decide_eq_true_eq]
 exact ⟨map_u8_inj hx hy, fun h => by rw [h]⟩
theorem same_walk (a a' : Option Addr) (n cap m cap' : Nat) (xs ys : List Nat) (hx : ∀ d ∈ xs, d < 256) (hy : ∀ d ∈ ys, d < 256) (w : World) (h : Sl .u8 w a n cap xs) (h' : Sl .u8 w a' m cap' ys) :
  Calls Tryd.prog 10 #[.slice a n cap, .slice a' m cap'] w fun e w' => e = .returned (.bool (decide (xs = ys))) ∧ w = w' := by
 have c1 := conv_bytes h Tryd.underlying22 Tryd.underlying5 Tryd.underlying9
 have c2 := conv_bytes h' Tryd.underlying22 Tryd.underlying5 Tryd.underlying9
 have e := hid (bytesOf_eq hx hy)
 clear h h'
 go_enter Tryd.func10, Tryd.ntmps10
 go_wp2
 go_ret
 exact ⟨by rw [← e.out]; rfl, rfl⟩
theorem same_self (a a' : Option Addr) (n cap m cap' : Nat) (xs : List Nat) (hx : ∀ d ∈ xs, d < 256) (w : World) (h : Sl .u8 w a n cap xs) (h' : Sl .u8 w a' m cap' xs) :
  Calls Tryd.prog 10 #[.slice a n cap, .slice a' m cap'] w fun e w' => e = .returned (.bool true) ∧ w = w' := by
 refine (same_walk a a' n cap m cap' xs xs hx hx w h h').mono ?_
 rintro e w' ⟨rfl, rfl⟩
 exact ⟨by rw [decide_eq_true rfl], rfl⟩
def CopyRes (w : World) (xs : List Nat) (e : Ending) (w' : World) : Prop := ∃ v, e = .returned v ∧ v ≠ .slice none 0 0 ∧ w'.ownsRow w.heap.size 5 1 v xs.length (nums .u8 xs) ∧ Below w.heap.size w w'
theorem copy_walk (a : Option Addr) (n cap : Nat) (xs : List Nat) (hn : n ≤ 140737488355328) (w : World) (h : Sl .u8 w a n cap xs) :
  Calls Tryd.prog 5 #[.slice a n cap] w (CopyRes w xs) := by
 have HL := hid h.len
 have O1 := hid (World.ownsRow_made (base := w.heap.size) (e := 5) (size := 1) w #[] 0 (Nat.le_refl _) (by simp) (by simp))
 have bb := (Below.refl w.heap.size w).alloc (Nat.le_refl _) (.cells #[] 5)
 have S1 := hid (h.below bb)
 clear h
 go_enter Tryd.func5, Tryd.ntmps5
 go_wp2_with (at_builtin; refine wpList_cat rfl _ _ 22 rfl tyBs w.heap.size O1.out rfl rfl S1.out (nums_oneCell _ _) ?c1 ?c2 ?c3 ?_)
 case c1 => omega
 case c2 => unfold maxLen; omega
 case c3 => simp
 intro v2 w2 hown2 hb2 hs2 hne
 have b2 := bb.trans hb2
 have hown3 : w2.ownsRow w.heap.size 5 1 v2 xs.length (nums .u8 xs) := by rw [HL.out]; exact hown2
 have HN := hid hne
 clear hne hown2 hb2 hs2
 go_wp2
 go_ret
 exact ⟨_, rfl, HN.out, hown3, b2⟩
end Go.Proofs.YtnbmpgballopeaaDoor
/- What a slice of records (a number, bytes) reads as. -/
namespace Go.Proofs.YtnbmpgballopeaaDoor
open Go.RowKit
structure LR where
 t : Nat
 a : Option Addr
 c : Nat
 v : List Nat
def LR.cells (l : LR) : List Value := [.int .u64 (l.t : Int), .slice l.a l.v.length l.c]
def LR.good (w : World) (l : LR) : Prop := l.t < 18446744073709551616 ∧ Sl .u8 w l.a l.v.length l.c l.v ∧ (∀ d ∈ l.v, d < 256) ∧ l.v.length ≤ 140737488351232
def LR.pr (l : LR) : Nat × List Nat := (l.t, l.v)
def Recs (w : World) (a : Option Addr) (n cap : Nat) (ls : List LR) : Prop := Rd w 2 a n cap (ls.flatMap LR.cells) ∧ ls.length = n ∧ ∀ l ∈ ls, l.good w
theorem LR.good.below {w w' : World} {l : LR} (h : l.good w) (hb : Below w.heap.size w w') : l.good w' := ⟨h.1, h.2.1.below hb, h.2.2⟩
theorem Recs.below {w w' : World} {a : Option Addr} {n cap : Nat} {ls : List LR} (h : Recs w a n cap ls) (hb : Below w.heap.size w w') : Recs w' a n cap ls :=
 ⟨h.1.below hb, h.2.1, fun l hl => (h.2.2 l hl).below hb⟩
theorem flat_get {ls : List LR} {j : Nat} {l : LR} (h : ls[j]? = some l) : (ls.flatMap LR.cells)[j * 2]? = some (.int .u64 (l.t : Int)) ∧ (ls.flatMap LR.cells)[j * 2 + 1]? = some (.slice l.a l.v.length l.c) := by
 induction ls generalizing j with
 | nil => simp at h
 | cons x r ih =>
  cases j with
  | zero =>
   simp only [List.getElem?_cons_zero, Option.some.injEq] at h
   subst h
   exact ⟨rfl, rfl⟩
  | succ j =>
   rw [List.getElem?_cons_succ] at h
   have := ih h
   rw [show (j + 1) * 2 = j * 2 + 2 by omega]
   exact this
theorem Recs.cells {w : World} {a : Option Addr} {n cap j : Nat} {ls : List LR} {l : LR} (h : Recs w a n cap ls) (hj : ls[j]? = some l) :
  ∃ b off, a = some ⟨b, off, none⟩ ∧ w.cell? ⟨b, off + j * 2, none⟩ = some (.int .u64 (l.t : Int)) ∧ w.cell? ⟨b, off + j * 2 + 1, none⟩ = some (.slice l.a l.v.length l.c) ∧ l.good w := by
 obtain ⟨⟨_, _, _, _, b, off, ha, hc⟩, hl, hg⟩ := h
 have hjl : j < ls.length := (List.getElem?_eq_some_iff.1 hj).1
 obtain ⟨f1, f2⟩ := flat_get hj
 exact ⟨b, off, ha (by omega), hc _ _ f1, by rw [Nat.add_assoc]; exact hc _ _ f2, hg l (List.mem_of_getElem? hj)⟩
theorem get_some {α : Type} {ls : List α} {j n : Nat} (hl : ls.length = n) (h : j < n) : ∃ l, ls[j]? = some l := ⟨ls[j]'(by omega), List.getElem?_eq_getElem (by omega)⟩
theorem take_succ_some {α : Type} {ls : List α} {j : Nat} {l : α} (h : ls[j]? = some l) : ls.take (j + 1) = ls.take j ++ [l] := by
 rw [List.take_add_one, h]; rfl
def BxR (w : World) (b : Nat) (t : Nat) (s : Value) : Prop := w.cell? ⟨b, 0, none⟩ = some (.int .u64 (t : Int)) ∧ w.cell? ⟨b, 1, none⟩ = some s
theorem BxR.below {w w' : World} {b t : Nat} {s : Value} (h : BxR w b t s) (hb : Below w.heap.size w w') : BxR w' b t s := by
 have hlt : b < w.heap.size := World.block_lt_of_cell? w _ h.1
 exact ⟨(hb.cell (p := ⟨b, 0, none⟩) hlt).trans h.1, (hb.cell (p := ⟨b, 1, none⟩) hlt).trans h.2⟩
theorem BxR.new (w : World) (t : Nat) (s : Value) (e : TypeId) : BxR (w.alloc (.cells #[.int .u64 (t : Int), s] e)) w.heap.size t s :=
 ⟨by rw [cell_of_row _ w.heap.size _ _ e (0, 0) (heap_alloc_new w _)]; rfl, by rw [cell_of_row _ w.heap.size _ _ e (0, 0) (heap_alloc_new w _)]; rfl⟩
end Go.Proofs.YtnbmpgballopeaaDoor
/- Slices of records as values. -/
namespace Go.Proofs.YtnbmpgballopeaaDoor
open Go.RowKit
theorem infoRec : (Tryd.prog.info? 75).map (fun i => (i.zero, i.size, i.bytes)) = some (some (.agg #[.int .u64 0, .slice none 0 0]), 2, 32) := by kernel_rfl
theorem infoRec2 : (Tryd.prog.info? 88).map (fun i => (i.zero, i.size, i.bytes)) = some (some (.agg #[.int .u64 0, .slice none 0 0]), 2, 32) := by kernel_rfl
theorem tyRec : SliceTy Tryd.prog 71 75 2 32 (.agg #[.int .u64 0, .slice none 0 0]) := .mk' Tryd.underlying71 infoRec rfl (by decide)
theorem tyRec2 : SliceTy Tryd.prog 85 88 2 32 (.agg #[.int .u64 0, .slice none 0 0]) := .mk' Tryd.underlying85 infoRec2 rfl (by decide)
def RecsV (w : World) (v : Value) (ls : List LR) : Prop := ∃ a c, v = .slice a ls.length c ∧ Recs w a ls.length c ls
theorem recs_lit' {w : World} {us : Array Value} {e : TypeId} {n : Nat} (ls : List LR) (hn : ls.length = n) (hu : us.toList = ls.flatMap LR.cells) (hz : us.size = n * 2) (hm : n ≤ maxLen) (hg : ∀ l ∈ ls, l.good w) :
  Recs (w.alloc (.cells us e)) (some ⟨w.heap.size, 0, none⟩) n n ls := by
 obtain ⟨a', cap', he, hr⟩ := Rd.of_owns (own_new w us e (B := w.heap.size) hz (Nat.le_refl _) hm)
 simp only [Value.slice.injEq, true_and] at he
 obtain ⟨rfl, rfl⟩ := he
 rw [hu] at hr
 exact ⟨hr, hn, fun l hl => (hg l hl).below ((Below.refl _ _).alloc (Nat.le_refl _) _)⟩
end Go.Proofs.YtnbmpgballopeaaDoor
/- Arrays of bytes as values; whether two are the same. -/
namespace Go.Proofs.YtnbmpgballopeaaDoor
open Go.RowKit
open Extern.Stop (cell)
def hv (xs : List Nat) : Value := .agg (nums .u8 xs).toArray
theorem nums_cell {xs : List Nat} (h : ∀ d ∈ xs, d < 256) : nums .u8 xs = (xs.map (fun d => UInt8.ofNat d)).map cell := by
 rw [nums, List.map_map]
 apply List.map_congr_left
 intro d hd
 have := h d hd
 simp only [Function.comp_apply, cell]
 congr 1
 simp
 omega
theorem szU8' (w : World) : (sizeOf 5).run Tryd.prog w = .ok 1 w := by
 have h := infoU8
 cases hi : Tryd.prog.info? 5 with
 | none => rw [hi] at h; cases h
 | some i =>
  rw [hi] at h
  simp only [Option.map_some, Option.some.injEq, Prod.mk.injEq] at h
  simp [sizeOf, typeInfo, hi, h.2.1]
theorem u8s_eq {xs ys : List Nat} (hx : ∀ d ∈ xs, d < 256) (hy : ∀ d ∈ ys, d < 256) : ((xs.map (fun d => UInt8.ofNat d)) == (ys.map (fun d => UInt8.ofNat d))) = decide (xs = ys) := by
 rw [Bool.eq_iff_iff, beq_iff_eq, decide_eq_true_eq]
 exact ⟨map_u8_inj hx hy, fun h => by rw [h]⟩
theorem run_eqIn_hv {t : TypeId} {n : Nat} (ht : Tryd.prog.underlying t = some (.array n 5)) (w : World) (d : Nat) {xs ys : List Nat} (lx : xs.length = n) (ly : ys.length = n) (hx : ∀ d ∈ xs, d < 256) (hy : ∀ d ∈ ys, d < 256) :
  (Op.equalIn (d + 2) t (hv xs) (hv ys)).run Tryd.prog w = .ok (decide (xs = ys)) w := by
 unfold hv
 rw [nums_cell hx, nums_cell hy, run_equalIn_bytes w d t 5 n ht Tryd.underlying5 szU8' _ _ (by simpa using lx) (by simpa using ly), u8s_eq hx hy]
theorem run_neq_hv {t : TypeId} {n : Nat} (ht : Tryd.prog.underlying t = some (.array n 5)) (w : World) {xs ys : List Nat} (lx : xs.length = n) (ly : ys.length = n) (hx : ∀ d ∈ xs, d < 256) (hy : ∀ d ∈ ys, d < 256) :
  (binOp .neq t (hv xs) (hv ys)).run Tryd.prog w = .ok (.bool (!decide (xs = ys))) w := by
 unfold hv
 rw [run_neq_struct]
 have := run_eqIn_hv ht w 9998 lx ly hx hy
 unfold hv at this
 rw [this]
 rfl
theorem guardH : Tryd.prog.eqGuardType Tryd.prog.depth 49 = false := by kernel_rfl
theorem infoH : (Tryd.prog.info? 49).map (·.size) = some 32 := by kernel_rfl
theorem guard_hv (xs ys : List Nat) : ∀ (op : BinOp) (x y : Operand) (w : World), (eqGuard op 49 x y (hv xs) (hv ys)).run Tryd.prog w = .ok () w := by
 intro op x y w
 exact run_eqGuard_agg w op 49 x y _ _ guardH
theorem neq_hv {xs ys : List Nat} (lx : xs.length = 32) (ly : ys.length = 32) (hx : ∀ d ∈ xs, d < 256) (hy : ∀ d ∈ ys, d < 256) : ∀ w : World, (binOp .neq 49 (hv xs) (hv ys)).run Tryd.prog w = .ok (.bool (!decide (xs = ys))) w :=
 fun w => run_neq_hv Tryd.underlying49 w lx ly hx hy
end Go.Proofs.YtnbmpgballopeaaDoor
/- Plain: the digest of bytes (a block into a state; blocks one behind the other; what is laid behind). No program in sight. -/
namespace Go.Proofs.YtnbmpgballopeaaDoor
def rot (n x : Nat) : Nat := x / 2 ^ n ||| x * 2 ^ (32 - n) % 4294967296
def sgp (x : Nat) : Nat := rot 7 x ^^^ rot 18 x ^^^ x / 8
def sgq (x : Nat) : Nat := rot 17 x ^^^ rot 19 x ^^^ x / 1024
def sga (a : Nat) : Nat := rot 2 a ^^^ rot 13 a ^^^ rot 22 a
def sge (e : Nat) : Nat := rot 6 e ^^^ rot 11 e ^^^ rot 25 e
def chf (e f g : Nat) : Nat := (e &&& f) ^^^ ((4294967295 - e) &&& g)
def maj (a b c : Nat) : Nat := (a &&& b) ^^^ (a &&& c) ^^^ (b &&& c)
def word (b : List Nat) (i : Nat) : Nat := ((b.getD (4 * i) 0 * 256 + b.getD (4 * i + 1) 0) * 256 + b.getD (4 * i + 2) 0) * 256 + b.getD (4 * i + 3) 0
def wnext (w : List Nat) (i : Nat) : Nat := (w.getD (i - 16) 0 + sgp (w.getD (i - 15) 0) + w.getD (i - 7) 0 + sgq (w.getD (i - 2) 0)) % 4294967296
def wordsN (b : List Nat) : Nat → List Nat
 | 0 => []
 | n + 1 => wordsN b n ++ [word b n]
def schedN (b : List Nat) : Nat → List Nat
 | 0 => wordsN b 16
 | n + 1 => schedN b n ++ [wnext (schedN b n) (16 + n)]
structure St where
 a : Nat
 b : Nat
 c : Nat
 d : Nat
 e : Nat
 f : Nat
 g : Nat
 h : Nat
def St.step (s : St) (k w : Nat) : St :=
 ⟨((s.h + sge s.e + chf s.e s.f s.g + k + w) + (sga s.a + maj s.a s.b s.c)) % 4294967296, s.a, s.b, s.c, (s.d + (s.h + sge s.e + chf s.e s.f s.g + k + w)) % 4294967296, s.e, s.f, s.g⟩
def St.rounds (s : St) (K W : List Nat) : Nat → St
 | 0 => s
 | n + 1 => (s.rounds K W n).step (K.getD n 0) (W.getD n 0)
def St.list (s : St) : List Nat := [s.a, s.b, s.c, s.d, s.e, s.f, s.g, s.h]
def stOf (S : List Nat) : St := ⟨S.getD 0 0, S.getD 1 0, S.getD 2 0, S.getD 3 0, S.getD 4 0, S.getD 5 0, S.getD 6 0, S.getD 7 0⟩
def addL (S T : List Nat) : List Nat := List.zipWith (fun x y => (x + y) % 4294967296) S T
def comp (K S b : List Nat) : List Nat := addL S ((stOf S).rounds K (schedN b 48) 64).list
def runB (K S bs : List Nat) : Nat → List Nat
 | 0 => S
 | k + 1 => comp K (runB K S bs k) ((bs.drop (64 * k)).take 64)
def bytes4 (x : Nat) : List Nat := [x / 16777216 % 256, x / 65536 % 256, x / 256 % 256, x % 256]
def beN : Nat → Nat → List Nat
 | 0, _ => []
 | n + 1, x => x / 256 ^ n % 256 :: beN n x
def padN (n : Nat) : List Nat := 128 :: (List.replicate (if n % 64 < 56 then 55 - n % 64 else 119 - n % 64) 0 ++ beN 8 (n * 8 % 18446744073709551616))
def hashS (K S b : List Nat) : List Nat := (runB K S (b ++ padN b.length) ((b ++ padN b.length).length / 64)).flatMap bytes4
def H0 : List Nat := [0x6a09e667, 0xbb67ae85, 0x3c6ef372, 0xa54ff53a, 0x510e527f, 0x9b05688c, 0x1f83d9ab, 0x5be0cd19]
def K0 : List Nat := [
 0x428a2f98, 0x71374491, 0xb5c0fbcf, 0xe9b5dba5, 0x3956c25b, 0x59f111f1, 0x923f82a4, 0xab1c5ed5,
 0xd807aa98, 0x12835b01, 0x243185be, 0x550c7dc3, 0x72be5d74, 0x80deb1fe, 0x9bdc06a7, 0xc19bf174,
 0xe49b69c1, 0xefbe4786, 0x0fc19dc6, 0x240ca1cc, 0x2de92c6f, 0x4a7484aa, 0x5cb0a9dc, 0x76f988da,
 0x983e5152, 0xa831c66d, 0xb00327c8, 0xbf597fc7, 0xc6e00bf3, 0xd5a79147, 0x06ca6351, 0x14292967,
 0x27b70a85, 0x2e1b2138, 0x4d2c6dfc, 0x53380d13, 0x650a7354, 0x766a0abb, 0x81c2c92e, 0x92722c85,
 0xa2bfe8a1, 0xa81a664b, 0xc24b8b70, 0xc76c51a3, 0xd192e819, 0xd6990624, 0xf40e3585, 0x106aa070,
 0x19a4c116, 0x1e376c08, 0x2748774c, 0x34b0bcb5, 0x391c0cb3, 0x4ed8aa4a, 0x5b9cca4f, 0x682e6ff3,
 0x748f82ee, 0x78a5636f, 0x84c87814, 0x8cc70208, 0x90befffa, 0xa4506ceb, 0xbef9a3f7, 0xc67178f2]
def sha (b : List Nat) : List Nat := hashS K0 H0 b
theorem rot_lt {n x : Nat} (hx : x < 4294967296) : rot n x < 4294967296 := by
 unfold rot
 have h1 : x / 2 ^ n < 2 ^ 32 := Nat.lt_of_le_of_lt (Nat.div_le_self _ _) (by omega)
 exact Nat.or_lt_two_pow h1 (by omega)
theorem xor_lt {x y : Nat} (hx : x < 4294967296) (hy : y < 4294967296) : x ^^^ y < 4294967296 := Nat.xor_lt_two_pow (n := 32) hx hy
theorem and_lt {x y : Nat} (hy : y < 4294967296) : x &&& y < 4294967296 := Nat.and_lt_two_pow (n := 32) _ hy
theorem chf_lt {e f g : Nat} (hf : f < 4294967296) (hg : g < 4294967296) : chf e f g < 4294967296 := xor_lt (and_lt hf) (and_lt hg)
theorem maj_lt {a b c : Nat} (hb : b < 4294967296) (hc : c < 4294967296) : maj a b c < 4294967296 := xor_lt (xor_lt (and_lt hb) (and_lt hc)) (and_lt hc)
theorem sga_lt {x : Nat} (hx : x < 4294967296) : sga x < 4294967296 := xor_lt (xor_lt (rot_lt hx) (rot_lt hx)) (rot_lt hx)
theorem sge_lt {x : Nat} (hx : x < 4294967296) : sge x < 4294967296 := xor_lt (xor_lt (rot_lt hx) (rot_lt hx)) (rot_lt hx)
theorem sgp_lt {x : Nat} (hx : x < 4294967296) : sgp x < 4294967296 := xor_lt (xor_lt (rot_lt hx) (rot_lt hx)) (by omega)
theorem sgq_lt {x : Nat} (hx : x < 4294967296) : sgq x < 4294967296 := xor_lt (xor_lt (rot_lt hx) (rot_lt hx)) (by omega)
theorem getDlt {l : List Nat} {M : Nat} (h : ∀ d ∈ l, d < M) (hM : 0 < M) (i : Nat) : l.getD i 0 < M := by
 rw [List.getD_eq_getElem?_getD]
 cases hi : l[i]? with
 | none => exact hM
 | some v => exact h v (List.mem_of_getElem? hi)
theorem word_lt {b : List Nat} (h : ∀ d ∈ b, d < 256) (i : Nat) : word b i < 4294967296 := by
 have h0 := getDlt h (by omega) (4 * i)
 have h1 := getDlt h (by omega) (4 * i + 1)
 have h2 := getDlt h (by omega) (4 * i + 2)
 have h3 := getDlt h (by omega) (4 * i + 3)
 unfold word
 omega
theorem wordsN_len (b : List Nat) (n : Nat) : (wordsN b n).length = n := by
 induction n with
 | zero => rfl
 | succ n ih => simp [wordsN, ih]
theorem schedN_len (b : List Nat) (n : Nat) : (schedN b n).length = 16 + n := by
 induction n with
 | zero => exact wordsN_len b 16
 | succ n ih => simp [schedN, ih]; omega
theorem wordsN_lt {b : List Nat} (h : ∀ d ∈ b, d < 256) (n : Nat) : ∀ x ∈ wordsN b n, x < 4294967296 := by
 induction n with
 | zero => simp [wordsN]
 | succ n ih =>
  intro x hx
  simp only [wordsN, List.mem_append, List.mem_singleton] at hx
  rcases hx with hx | rfl
  ·exact ih x hx
  ·exact word_lt h n
theorem schedN_lt {b : List Nat} (h : ∀ d ∈ b, d < 256) (n : Nat) : ∀ x ∈ schedN b n, x < 4294967296 := by
 induction n with
 | zero => exact wordsN_lt h 16
 | succ n ih =>
  intro x hx
  simp only [schedN, List.mem_append, List.mem_singleton] at hx
  rcases hx with hx | rfl
  ·exact ih x hx
  ·exact Nat.mod_lt _ (by omega)
structure St.ok (s : St) : Prop where
 a : s.a < 4294967296
 b : s.b < 4294967296
 c : s.c < 4294967296
 d : s.d < 4294967296
 e : s.e < 4294967296
 f : s.f < 4294967296
 g : s.g < 4294967296
 h : s.h < 4294967296
theorem St.ok.step {s : St} (h : s.ok) (k w : Nat) : (s.step k w).ok := ⟨Nat.mod_lt _ (by omega), h.a, h.b, h.c, Nat.mod_lt _ (by omega), h.e, h.f, h.g⟩
theorem St.ok.rounds {s : St} (h : s.ok) (K W : List Nat) (n : Nat) : (s.rounds K W n).ok := by
 induction n with
 | zero => exact h
 | succ n ih => exact ih.step _ _
theorem stOf_ok {S : List Nat} (h : ∀ d ∈ S, d < 4294967296) : (stOf S).ok :=
 ⟨getDlt h (by omega) _, getDlt h (by omega) _, getDlt h (by omega) _, getDlt h (by omega) _, getDlt h (by omega) _, getDlt h (by omega) _, getDlt h (by omega) _, getDlt h (by omega) _⟩
theorem comp_len {K S b : List Nat} (h : S.length = 8) : (comp K S b).length = 8 := by simp [comp, addL, h, St.list]
theorem comp_lt {K S b : List Nat} : ∀ d ∈ comp K S b, d < 4294967296 := by
 intro d hd
 unfold comp addL at hd
 obtain ⟨i, hi, rfl⟩ := List.getElem_of_mem hd
 rw [List.getElem_zipWith]
 exact Nat.mod_lt _ (by omega)
theorem runB_len {K S bs : List Nat} (h : S.length = 8) (n : Nat) : (runB K S bs n).length = 8 := by
 induction n with
 | zero => exact h
 | succ n ih => exact comp_len ih
theorem runB_lt {K S bs : List Nat} (h : ∀ d ∈ S, d < 4294967296) (n : Nat) : ∀ d ∈ runB K S bs n, d < 4294967296 := by
 cases n with
 | zero => exact h
 | succ n => exact comp_lt
theorem runB_front {K S : List Nat} (xs ys : List Nat) (n : Nat) (h : 64 * n ≤ xs.length) : runB K S (xs ++ ys) n = runB K S xs n := by
 induction n with
 | zero => rfl
 | succ n ih =>
  rw [runB, runB, ih (by omega), List.drop_append_of_le_length (by omega), List.take_append_of_le_length (by rw [List.length_drop]; omega)]
end Go.Proofs.YtnbmpgballopeaaDoor
