/- The store's Get. -/
import Derived.Test.YtnophelfpoldfaaGreatDoorGCat
import Derived.Test.YtnophelfpoldfaaGreatDoorGSte
import Derived.Test.YtnophelfpoldfaaGreatDoorStd
namespace Go.Proofs.YtnophelfpoldfaaGreatDoor
open Go.RowKit

theorem zvS {t : TypeId} {z : Value} (h : (Tryz.prog.info? t).map (·.zero) = some (some z)) (w : World) : (zeroValue t).run Tryz.prog w = .ok z w := by
  cases hi : Tryz.prog.info? t with
  | none => rw [hi] at h; cases h
  | some i =>
    rw [hi] at h
    simp only [Option.map_some, Option.some.injEq] at h
    simp [zeroValue, typeInfo, hi, h]
def GetR (w : World) (r : Option (List Nat)) (e : Ending) (w' : World) : Prop :=
  ∃ v, e = .returned (.tuple #[v, .bool r.isSome]) ∧ w'.ownsRow w.heap.size 5 1 v (r.getD []).length (nums .u8 (r.getD [])) ∧ Below w.heap.size w w'
theorem sl_nilG (w : World) : Sl .u8 w none 0 0 [] := ⟨by simp, Nat.le_refl _, Nat.zero_le _, fun _ => rfl, 0, 0, fun h => absurd h (by decide), by simp⟩
theorem get_nil (w : World) (v : Value) : Calls Tryz.prog 15 #[.pointer none, v] w fun e w' => e = .returned (.tuple #[.slice none 0 0, .bool false]) ∧ w = w' := by
  go_enter Tryz.func15, Tryz.ntmps15
  go_wp2_with (fail)
  go_ret2
  exact ⟨rfl, rfl⟩
set_option maxRecDepth 100000 in
set_option maxHeartbeats 4000000 in
theorem get_walk {w : World} {sb jb mb n : Nat} {M : Mp} (hs : StB w sb jb mb) (hm : MpAt w mb M n) (a : Option Addr) (N c : Nat) (key : List Nat) (hk : Sl .u8 w a N c key) (h8 : ∀ d ∈ key, d < 256) :
    Calls Tryz.prog 15 #[.pointer (some ⟨sb, 0, none⟩), .slice a N c] w (GetR w (M key)) := by
  have OK := hid (show ES.ok key from ⟨by have := hk.1; have := hk.2.1; have := hk.2.2.1; rw [nums_length] at *; omega, h8⟩)
  obtain ⟨V, hV1, hV2, hV3⟩ := hm.ex
  obtain ⟨va, vn, vc, ev, sv⟩ : ∃ va vn vc, (V key).getD (.slice none 0 0) = .slice va vn vc ∧ Sl .u8 w va vn vc ((M key).getD []) := by
    have h2 := hV2 key
    cases hv : V key with
    | none =>
      rw [hv] at h2
      cases hb : M key with
      | none => exact ⟨none, 0, 0, rfl, sl_nilG w⟩
      | some b => rw [hb] at h2; cases h2
    | some v =>
      rw [hv] at h2
      cases hb : M key with
      | none => rw [hb] at h2; cases h2
      | some b =>
        obtain ⟨a, n, c, e, h, _⟩ := hV3 key v b hv hb
        exact ⟨a, n, c, e, h⟩
  have vl : vn < 4294967296 := by
    have := sv.len
    cases hb : M key with
    | none => rw [hb] at this; simp at this; omega
    | some b => rw [hb] at this; have := hm.vl key b hb; simp at *; omega
  obtain ⟨kn, hkn⟩ : ∃ kn, kn = (M key).isSome := ⟨_, rfl⟩
  obtain ⟨rs, hrs⟩ : ∃ rs, rs = (M key).getD [] := ⟨_, rfl⟩
  have KN := hid hkn
  have RS := hid hrs
  have V1 := hid hV1
  have LK := hid (show (V key).isSome = kn by rw [hV2, ← hkn])
  have EV := hid ev
  have HK := hid hk
  rw [← hrs] at sv
  have SV := hid sv
  have VL := hid vl
  have s1 := hs.c1
  clear hkn hrs hs hm hk h8 hV1 hV2 hV3 ev sv vl
  go_enter Tryz.func15, Tryz.ntmps15
  go_upto_region 3 with (fail)
  refine wp_region_held_drew (S := fun w' => Below w.heap.size w w') (by kernel_rfl) ((Below.refl _ _).drew) (fun hHeld => ?_)
  try simp only [List.size_toArray, List.length_cons, List.length_nil, Nat.reduceAdd, Array.replicate_succ, Array.replicate_zero, List.push_toArray, List.nil_append, List.cons_append]
  refine wpAnyH_take (i := 0) (oi := { dst := some 11, op := Op.move (Operand.tmp 0), type := 34, pos := "store.go:146", after := #[], guard := none }) (v := ?v1001) rfl (by kernel_rfl) (by kernel_rfl) (by kernel_rfl) (fun _ _ _ h => h) (Or.inl ⟨by rfl, ?hy1001⟩) hHeld ?_
  case hy1001 => (intro w hSw; (try dsimp only at hSw); go_simp; (try with_reducible rfl))
  (try simp only [Act.put, List.setIfInBounds_toArray, List.set_cons_zero, List.set_cons_succ])
  refine wpAnyH_take (i := 1) (oi := { dst := some 12, op := Op.nilCheck (Operand.tmp 11), type := 0, pos := "store.go:146", after := #[{ on := 0, ground := Ground.data }], guard := none }) (v := ?v1002) rfl (by kernel_rfl) (by kernel_rfl) (by kernel_rfl) (fun _ _ _ h => h) (Or.inl ⟨by rfl, ?hy1002⟩) hHeld ?_
  case hy1002 => (intro w hSw; (try dsimp only at hSw); go_simp; (try with_reducible rfl))
  (try simp only [Act.put, List.setIfInBounds_toArray, List.set_cons_zero, List.set_cons_succ])
  refine wpAnyH_take (i := 2) (oi := { dst := some 13, op := Op.fieldAddr 80 (Operand.tmp 12) 1, type := 0, pos := "store.go:146", after := #[{ on := 1, ground := Ground.data }], guard := none }) (v := ?v1003) rfl (by kernel_rfl) (by kernel_rfl) (by kernel_rfl) (fun _ _ _ h => h) (Or.inl ⟨by rfl, ?hy1003⟩) hHeld ?_
  case hy1003 => (intro w hSw; (try dsimp only at hSw); go_simp; (try with_reducible rfl))
  (try simp only [Act.put, List.setIfInBounds_toArray, List.set_cons_zero, List.set_cons_succ])
  refine wpAnyH_take (i := 3) (oi := { dst := some 14, op := Op.load 78 (Operand.tmp 13), type := 78, pos := "store.go:146", after := #[{ on := 2, ground := Ground.data }], guard := none }) (v := (.map (some mb))) rfl (by kernel_rfl) (by kernel_rfl) (by kernel_rfl) (fun _ _ _ h => h) (Or.inl ⟨by rfl, fun w h => by have c9 := cell_keep h s1; go_simp⟩) hHeld ?_
  (try simp only [Act.put, List.setIfInBounds_toArray, List.set_cons_zero, List.set_cons_succ])
  refine wpAnyH_take (i := 4) (oi := { dst := some 15, op := Op.move (Operand.tmp 1), type := 22, pos := "store.go:146", after := #[], guard := none }) (v := ?v1004) rfl (by kernel_rfl) (by kernel_rfl) (by kernel_rfl) (fun _ _ _ h => h) (Or.inl ⟨by rfl, ?hy1004⟩) hHeld ?_
  case hy1004 => (intro w hSw; (try dsimp only at hSw); go_simp; (try with_reducible rfl))
  (try simp only [Act.put, List.setIfInBounds_toArray, List.set_cons_zero, List.set_cons_succ])
  refine wpAnyH_take (i := 5) (oi := { dst := some 16, op := Op.convert 22 9 (Operand.tmp 15), type := 9, pos := "store.go:146", after := #[{ on := 4, ground := Ground.data }], guard := none }) (v := (.string (bytesOf key))) rfl (by kernel_rfl) (by kernel_rfl) (by kernel_rfl) (fun _ _ _ h => h) (Or.inl ⟨by rfl, fun w h => by have c9 := conv_bytes (HK.out.below h) Tryz.underlying22 Tryz.underlying5 Tryz.underlying9; go_simp⟩) hHeld ?_
  (try simp only [Act.put, List.setIfInBounds_toArray, List.set_cons_zero, List.set_cons_succ])
  refine wpAnyH_take (i := 6) (oi := { dst := some 17, op := Op.lookup 78 (Operand.tmp 14) (Operand.tmp 16) true, type := 44, pos := "store.go:146", after := #[{ on := 3, ground := Ground.data }, { on := 5, ground := Ground.data }], guard := none }) (v := (.tuple #[.slice va vn vc, .bool kn])) rfl (by kernel_rfl) (by kernel_rfl) (by kernel_rfl) (fun _ _ _ h => h) (Or.inl ⟨by rfl, fun w h => by rw [← LK.out, ← EV.out]; exact run_look (.tmp 14) (.tmp 16) _ true rfl Tryz.underlying78 (zvS (by kernel_rfl) w) (V1.out.below h) rfl key OK.out rfl⟩) hHeld ?_
  (try simp only [Act.put, List.setIfInBounds_toArray, List.set_cons_zero, List.set_cons_succ])
  refine wpAnyH_take (i := 7) (oi := { dst := some 10, op := Op.move (Operand.tmp 17), type := 44, pos := "store.go:146", after := #[{ on := 6, ground := Ground.data }], guard := none }) (v := ?v1005) rfl (by kernel_rfl) (by kernel_rfl) (by kernel_rfl) (fun _ _ _ h => h) (Or.inl ⟨by rfl, ?hy1005⟩) hHeld ?_
  case hy1005 => (intro w hSw; (try dsimp only at hSw); go_simp; (try with_reducible rfl))
  (try simp only [Act.put, List.setIfInBounds_toArray, List.set_cons_zero, List.set_cons_succ])
  refine wpAnyH_take (i := 8) (oi := { dst := some 18, op := Op.extract (Operand.tmp 10) 0, type := 22, pos := "store.go:146", after := #[{ on := 7, ground := Ground.data }], guard := none }) (v := ?v1006) rfl (by kernel_rfl) (by kernel_rfl) (by kernel_rfl) (fun _ _ _ h => h) (Or.inl ⟨by rfl, ?hy1006⟩) hHeld ?_
  case hy1006 => (intro w hSw; (try dsimp only at hSw); go_simp; (try with_reducible rfl))
  (try simp only [Act.put, List.setIfInBounds_toArray, List.set_cons_zero, List.set_cons_succ])
  refine wpAnyH_take (i := 9) (oi := { dst := some 19, op := Op.extract (Operand.tmp 10) 1, type := 4, pos := "store.go:146", after := #[{ on := 7, ground := Ground.data }, { on := 10, ground := Ground.gcOnly Departure.lateStores }], guard := none }) (v := ?v1007) rfl (by kernel_rfl) (by kernel_rfl) (by kernel_rfl) (fun _ _ _ h => h) (Or.inl ⟨by rfl, ?hy1007⟩) hHeld ?_
  case hy1007 => (intro w hSw; (try dsimp only at hSw); go_simp; (try with_reducible rfl))
  (try simp only [Act.put, List.setIfInBounds_toArray, List.set_cons_zero, List.set_cons_succ])
  refine wpAnyH_take (i := 10) (oi := { dst := some 6, op := Op.assign (Operand.tmp 18), type := 22, pos := "store.go:146", after := #[{ on := 8, ground := Ground.data }, { on := 0, ground := Ground.phase }, { on := 1, ground := Ground.phase }, { on := 2, ground := Ground.phase }, { on := 3, ground := Ground.phase }, { on := 4, ground := Ground.phase }, { on := 5, ground := Ground.phase }, { on := 6, ground := Ground.phase }, { on := 7, ground := Ground.phase }, { on := 8, ground := Ground.phase }, { on := 9, ground := Ground.textOnly Departure.lateStores }], guard := none }) (v := ?v1008) rfl (by kernel_rfl) (by kernel_rfl) (by kernel_rfl) (fun _ _ _ h => h) (Or.inl ⟨by rfl, ?hy1008⟩) hHeld ?_
  case hy1008 => (intro w hSw; (try dsimp only at hSw); go_simp; (try with_reducible rfl))
  (try simp only [Act.put, List.setIfInBounds_toArray, List.set_cons_zero, List.set_cons_succ])
  refine wpAnyH_take (i := 11) (oi := { dst := some 7, op := Op.assign (Operand.tmp 19), type := 4, pos := "store.go:146", after := #[{ on := 9, ground := Ground.data }, { on := 10, ground := Ground.chain }, { on := 0, ground := Ground.phase }, { on := 1, ground := Ground.phase }, { on := 2, ground := Ground.phase }, { on := 3, ground := Ground.phase }, { on := 4, ground := Ground.phase }, { on := 5, ground := Ground.phase }, { on := 6, ground := Ground.phase }, { on := 7, ground := Ground.phase }, { on := 8, ground := Ground.phase }, { on := 9, ground := Ground.phase }, { on := 10, ground := Ground.phase }], guard := none }) (v := ?v1009) rfl (by kernel_rfl) (by kernel_rfl) (by kernel_rfl) (fun _ _ _ h => h) (Or.inl ⟨by rfl, ?hy1009⟩) hHeld ?_
  case hy1009 => (intro w hSw; (try dsimp only at hSw); go_simp; (try with_reducible rfl))
  (try simp only [Act.put, List.setIfInBounds_toArray, List.set_cons_zero, List.set_cons_succ])
  refine wpAnyH_done (by kernel_rfl) ?_ _
  rotate_left
  go_wp2_with (fail)
  refine (clone8_walk va vn vc rs _ (SV.out.below (Below.refl _ _).drew) VL.out).mono ?_
  rintro e w5 ⟨v5, rfl, o5, b5⟩
  have O5 := hid o5
  have B5 := hid b5
  clear o5 b5
  go_wp2_with (fail)
  go_ret2
  exact ⟨v5, by rw [← KN.out]; rfl, by rw [← RS.out]; exact O5.out, (Below.refl _ _).drew.trans B5.out⟩
end Go.Proofs.YtnophelfpoldfaaGreatDoor

/- The store's Put, where there is room. -/
namespace Go.Proofs.YtnophelfpoldfaaGreatDoor
open Go.RowKit

def PutR (w : World) (S : Nat → Prop) (sb : Nat) (M : Mp) (n N next : Nat) (e : Ending) (w' : World) : Prop :=
  e = .returned (.int .i64 0) ∧ ∃ S' m, StoA w' S' sb M m N next ∧ m ≤ n ∧ (∀ i, S' i → S i ∨ w.heap.size ≤ i)
theorem sput_nil (w : World) (v : Value) : Calls Tryz.prog 14 #[.pointer none, v] w fun e w' => e = .returned (.int .i64 40) ∧ w = w' := by
  go_enter Tryz.func14, Tryz.ntmps14
  go_wp2_with (fail)
  go_ret
  exact ⟨rfl, rfl⟩
set_option maxRecDepth 100000 in
set_option maxHeartbeats 8000000 in
theorem sput_walk {w : World} {S : Nat → Prop} {sb : Nat} {M : Mp} {n N next : Nat} (h : StoA w S sb M n N next) (ht : Tabs w) (a : Option Addr) (len cap : Nat) (ls : List LC) (hL : ∀ w', Keep S w w' → Chs w' a len cap ls)
    (hk : ∀ l ∈ ls, 0 < l.k.length ∧ l.k.length ≤ 128 ∧ (l.g = true → l.v = [])) (hv : ∀ l ∈ ls, l.v.length ≤ 200) (hlen : len ≤ 128) (hn : n ≤ 1000000) (m : Nat) (hm : m = (99 + (encAll (encC (ls.map LC.chg))).length) / 64) (hr : next + m ≤ N) :
    Calls Tryz.prog 14 #[.pointer (some ⟨sb, 0, none⟩), .slice a len cap] w (fun e w' => PutR w S sb (takeM M (ls.map LC.chg)) (n + len) N (next + m) e w' ∧ Keep S w w') := by
  obtain ⟨db, jb, mb, Bd, Bj, half, turn, chk, st, rv, sd, rs, C, h⟩ := h
  have H := hid h
  have HT := hid ht
  have HLS := hid hL
  have HK := hid hk
  have HV := hid hv
  have HN := hid hn
  have HR := hid hr
  have HM := hid hm
  have HLE := hid hlen
  have C0 := hid (hL w (Keep.refl _ _))
  have LL := hid C0.out.2.1
  clear h ht hL hk hv hn hr hm hlen
  go_enter Tryz.func14, Tryz.ntmps14
  go_wp2_with (fail)
  go_loopw [15] (fun x15 wr => ∃ j : Nat, j ≤ len ∧ x15 = .int .i64 (j : Int) ∧ Below w.heap.size w wr) (fun x15 _ => len - (intOf x15).toNat)
  case atStart => exact ⟨0, Nat.zero_le _, rfl, Below.refl _ _⟩
  case round =>
    obtain ⟨j, hj, rfl, hb⟩ := hrel
    have BR := hid hb
    clear hb
    by_cases hlt : j < len
    case pos =>
      have t1 : decide (j < len) = true := decide_eq_true hlt
      have t2 : decide ((j : Int) < (len : Int)) = true := decide_eq_true (by omega)
      obtain ⟨l, hl⟩ := get_some LL.out hlt
      obtain ⟨b, off, rfl, c0, c1, c2, _⟩ := (C0.out.below BR.out).cells hl
      have KK := HK.out l (List.mem_of_getElem? hl)
      obtain ⟨j1, hj1⟩ : ∃ j1, j1 = j + 1 := ⟨_, rfl⟩
      have r4 : IntKind.i64.wrap ((j : Int) + 1) = (j1 : Int) := by have := HLE.out; rw [IntKind.wrap_i64]; omega
      have J1 := hid hj1
      have LT := hid hlt
      obtain ⟨ka, kc, k, va, vc, v, g⟩ := l
      obtain ⟨kl, hkl⟩ : ∃ kl, kl = k.length := ⟨_, rfl⟩
      have c0' : wr.cell? ⟨b, off + j * 3, none⟩ = some (.slice ka kl kc) := by rw [hkl]; exact c0
      have c1' : wr.cell? ⟨b, off + j * 3 + 1, none⟩ = some (.slice va v.length vc) := c1
      have c2' : wr.cell? ⟨b, off + j * 3 + 2, none⟩ = some (.bool g) := c2
      have k1 : 0 < kl := by rw [hkl]; exact KK.1
      have k2 : kl ≤ 128 := by rw [hkl]; exact KK.2.1
      have q1 : ((kl : Int) == 0) = false := beq_eq_false_iff_ne.2 (by omega)
      have q1' : ¬ (kl : Int) = 0 := by omega
      have q1'' : ¬ kl = 0 := by omega
      have q2 : decide ((128 : Int) < (kl : Int)) = false := decide_eq_false (by omega)
      have q2' : decide (128 < kl) = false := decide_eq_false (by omega)
      clear c0 c1 c2 hl hj hlt hj1 hkl k1 k2
      cases g with
      | true =>
        obtain rfl : v = [] := KK.2.2 rfl
        clear KK
        go_upto_region 6 with (fail)
        refine newW ?_
        intro wa HA BA
        have a0 : wa.cell? ⟨wr.heap.size, 0, none⟩ = some (.slice ka kl kc) := gen_cell (L := [.slice ka kl kc, .slice va 0 vc, .bool true]) (j := 0) (row_range HA.out) rfl
        have a1 : wa.cell? ⟨wr.heap.size, 1, none⟩ = some (.slice va 0 vc) := gen_cell (L := [.slice ka kl kc, .slice va 0 vc, .bool true]) (j := 1) (row_range HA.out) rfl
        have a2 : wa.cell? ⟨wr.heap.size, 2, none⟩ = some (.bool true) := gen_cell (L := [.slice ka kl kc, .slice va 0 vc, .bool true]) (j := 2) (row_range HA.out) rfl
        go_wp2_with (fail)
        go_roundw
        case rel => exact ⟨j1, by have := J1.out; have := LT.out; omega, rfl, BR.out.trans (BA.out.mono BR.out.size)⟩
        case measure => simp [intOf]; have := J1.out; have := LT.out; omega
      | false =>
        clear KK
        go_upto_region 6 with (fail)
        refine newW ?_
        intro wa HA BA
        have a0 : wa.cell? ⟨wr.heap.size, 0, none⟩ = some (.slice ka kl kc) := gen_cell (L := [.slice ka kl kc, .slice va v.length vc, .bool false]) (j := 0) (row_range HA.out) rfl
        have a2 : wa.cell? ⟨wr.heap.size, 2, none⟩ = some (.bool false) := gen_cell (L := [.slice ka kl kc, .slice va v.length vc, .bool false]) (j := 2) (row_range HA.out) rfl
        go_wp2_with (fail)
        go_roundw
        case rel => exact ⟨j1, by have := J1.out; have := LT.out; omega, rfl, BR.out.trans (BA.out.mono BR.out.size)⟩
        case measure => simp [intOf]; have := J1.out; have := LT.out; omega
    obtain rfl : j = len := by omega
    have t1 : decide (j < j) = false := decide_eq_false (by omega)
    have t2 : decide ((j : Int) < (j : Int)) = false := decide_eq_false (by omega)
    clear hj hlt
    have EW := hid (senc_walk a j cap ls wr (C0.out.below BR.out) (by have := HLE.out; omega) (fun l hl => ⟨by have := (HK.out l hl).2.1; omega, by have := HV.out l hl; omega⟩))
    go_wp2_with (fail)
    refine EW.out.mono ?_
    rintro e w9 ⟨v9, rfl, o9, b9⟩
    have EE := hid (show encE (encC (ls.map LC.chg)) = 0 from encC_ok (by rw [List.length_map, LL.out]; exact HLE.out) (fun c hc => by
      obtain ⟨l, hl, rfl⟩ := List.mem_map.1 hc
      exact ⟨by have := (HK.out l hl).2.1; show l.k.length ≤ _; omega, by have := HV.out l hl; show l.v.length < _; omega⟩))
    obtain ⟨bs, hbs⟩ : ∃ bs, bs = encAll (encC (ls.map LC.chg)) := ⟨_, rfl⟩
    have BSE := hid hbs
    rw [EE.out, if_pos rfl, ← hbs] at o9
    rw [EE.out]
    have B8 := hid (show ∀ d ∈ bs, d < 256 from by rw [hbs]; exact encC_lt _ (fun c hc => by obtain ⟨l, hl, rfl⟩ := List.mem_map.1 hc; exact ⟨(C0.out.2.2 l hl).k8, (C0.out.2.2 l hl).v8⟩))
    have B9 := hid (BR.out.trans (b9.mono BR.out.size))
    obtain ⟨a9, c9, rfl, _⟩ := Rd.of_owns o9
    obtain ⟨N9, hN9⟩ : ∃ N9, N9 = bs.length := ⟨_, rfl⟩
    rw [← hN9] at o9
    rw [← hN9]
    have O9 := hid o9
    have H9 := hid (H.out.below B9.out)
    have few := hid (show N ≤ 2048 by have := H.out.sz; have := H.out.dk.few; omega)
    have BL := hid (show N9 ≤ 65536 by have := encC_bytes (ls.map LC.chg) 128 200 (fun c hc => by
      obtain ⟨l, hl, rfl⟩ := List.mem_map.1 hc
      exact ⟨(HK.out l hl).2.1, HV.out l hl⟩)
                                       rw [← BSE.out, List.length_map, LL.out] at this
                                       have := HLE.out
                                       omega)
    have AP := hid (japp_walk H9.out.jr H9.out.dk H9.out.hh (by have := H9.out.nx; have := few.out; omega) H9.out.sep (HT.out.below B9.out) (by have := H9.out.rl; have := H9.out.nx; have := few.out; omega) a9 N9 c9 bs (fun w' k => by
      have := k.own O9.out (fun g hg e => by
        have h1 := (O9.out.lt g hg).1
        have h2 : S g := (H.out.iff g).2 (e.elim (fun e => .inl e) (fun e => .inr (.inl e)))
        have := H.out.lt g h2
        have := BR.out.size
        omega)
      have := sl_of_own this
      exact this) B8.out BL.out m (by rw [HM.out, ← BSE.out]))
    have s9 := H9.out.sB.c0
    clear o9 b9 EW hbs hN9
    go_wp2_with (fail)
    refine AP.out.mono ?_
    rintro e w12 ha
    unfold AppRes at ha
    rw [if_pos (by rw [H9.out.sz]; exact HR.out)] at ha
    obtain ⟨rfl, A⟩ := ha
    have AO := hid A
    have NB9 := hid (show ∀ i, i < w9.heap.size → (i = db ∨ sd.ownBlock = some i ∨ i = jb ∨ rv.ownBlock = some i) → NoBy w9 i from fun i _ e => H9.out.noBy i ((H9.out.iff i).2 (by rcases e with e | e | e | e <;> simp [e])))
    have MP := hid (H9.out.mp.keep A.keep NB9.out H9.out.nmb)
    have SB := hid (H9.out.sB.keep A.keep (fun e => H9.out.nsb ((H9.out.iff sb).2 (by rcases e with e | e | e | e <;> simp [e]))))
    have KS := hid (show Keep S w w12 from (Keep.of B9.out).trans (A.keep.mono (fun i e => (H.out.iff i).2 (by rcases e with e | e | e | e <;> simp [e]))))
    have TK := hid (take_walk SB.out MP.out a j cap ls (HLS.out w12 KS.out) (by have := HN.out; have := HLE.out; omega) (fun l hl => by have := HV.out l hl; omega))
    clear A AP
    go_wp2_with (fail)
    refine TK.out.mono ?_
    rintro e w13 ⟨rfl, mm, hmm, hle, hkm⟩
    have MM := hid hmm
    have ML := hid hle
    have KM := hid hkm
    clear hmm hle hkm TK
    go_wp2_with (fail)
    go_ret
    obtain ⟨rv', jr', jn⟩ := AO.out.ex
    have nb : ∀ i, i < w12.heap.size → i = mb → NoBy w12 i := fun i _ e => e ▸ MP.out.noBy
    refine ⟨⟨rfl, fun i => i = db ∨ sd.ownBlock = some i ∨ i = jb ∨ rv'.ownBlock = some i ∨ i = mb, mm, ⟨db, jb, mb, Bd, Bj, half, turn, recH chk bs, st, rv', sd, rs ++ [bs], layB C (half * (C.length / 2) + next) (recB chk bs) m, ?_⟩, ML.out, ?_⟩, ?_⟩
    · refine ⟨SB.out.keep KM.out ?_, MM.out, jr'.keep KM.out nb ?_ ?_, AO.out.dsk.keep KM.out nb ?_ ?_ (fun g hg => nomatch hg), H.out.hh, H.out.sep, ?_, ?_, HR.out, fun i => Iff.rfl⟩
      · intro e
        have := SB.out
        unfold StB at this
        rw [e] at this
        exact MP.out.no_cells this
      · intro e
        obtain ⟨sv, j1, _⟩ := jr'.ex
        have := j1.cell
        rw [e] at this
        exact MP.out.no_cells this
      · intro g hg e
        obtain ⟨vs, o, _⟩ := jr'.row
        obtain ⟨cur, hc⟩ := own_obj o hg
        rw [e] at hc
        exact MP.out.no_cells hc
      · intro e
        have := AO.out.dsk.cell
        rw [e] at this
        exact MP.out.no_cells this
      · intro g hg e
        obtain ⟨vs, o, _⟩ := AO.out.dsk.sure
        obtain ⟨cur, hc⟩ := own_obj o hg
        rw [e] at hc
        exact MP.out.no_cells hc
      · rw [layB_len]; exact H.out.sz
      · rw [List.length_append]
        have := H.out.rl
        have : 1 ≤ m := by have := HM.out; omega
        simp only [List.length_cons, List.length_nil]
        omega
    · intro i hi
      rcases hi with e | e | e | e | e
      · exact .inl ((H.out.iff i).2 (by simp [e]))
      · exact .inl ((H.out.iff i).2 (by simp [e]))
      · exact .inl ((H.out.iff i).2 (by simp [e]))
      · rcases jn with e2 | e2
        · exact .inl ((H.out.iff i).2 (by rw [← e2]; simp [e]))
        · exact .inr (Nat.le_trans B9.out.size (e2 i e))
      · exact .inl ((H.out.iff i).2 (by simp [e]))
    · exact KS.out.trans (KM.out.mono (fun i e => (H.out.iff i).2 (by simp [e])))
end Go.Proofs.YtnophelfpoldfaaGreatDoor

/- The store's Open, over what the journal's Open has given. -/
namespace Go.Proofs.YtnophelfpoldfaaGreatDoor
open Go.RowKit

/-- 'append(s, x...)': s nil or the call's own, x whatever can be read: what else stays -/
theorem wpList_catK {P : Program} {ops : Array Oper} {rest : List Oper} {o : Oper} {a : Act} {Q : Exit → Act → World → Prop} {w : World} (hgd : o.guard = none) (s x : Operand) (t : TypeId)
    (ho : o.op = .call { callee := .builtin .append, args := #[s, x], argTypes := #[t, t] })
    {e : TypeId} {size bytes : Nat} {z : Value} (ty : SliceTy P t e size bytes z) (B : Nat) {v : Value} {n : Nat} {xs : List Value} (hown : w.ownsRow B e size v n xs) (hs : a.eval s = v)
    {ad : Option Addr} {m c : Nat} {news : List Value} (hx : a.eval x = .slice ad m c) (hrd : Rd w size ad m c news) (h1 : ∀ u ∈ news, u.oneCell' = true) (hn : (n + m) * bytes ≤ 140737488355328) (hn' : n + m ≤ maxLen) (hB : B ≤ w.heap.size)
    (h : ∀ v' w', w'.ownsRow B e size v' (n + m) (xs ++ news) → Keep (fun i => v.ownBlock = some i) w w' → wpList P ops Q rest (a.put o.dst v') w') : wpList P ops Q (o :: rest) a w := by
  obtain ⟨i, ht, hi, hz, hsz, hb⟩ := ty.ex
  obtain ⟨r1, r2, r3, r4, b, off, ha, hc⟩ := hrd
  cases ad with
  | none =>
    have hc0 := r4 rfl
    subst hc0
    obtain rfl : m = 0 := by omega
    have hnil : news = [] := List.eq_nil_of_length_eq_zero (by simpa using r1)
    subst hnil
    refine wpList_append_own_none hgd s x t ho B e i size ht hi v n xs hs hown hx ?_
    exact h v w (by simpa using hown) (Keep.refl _ _)
  | some ad =>
    refine wpList_append_own_at _ hgd s x t ho B e i z size bytes ht hi hz hsz hb ty.zs ty.pos v n xs hs hown ad m c news hx r1 ?_ h1 hn' hn hB ?_
    · intro j u hu
      have hm : 0 < m := by
        rcases Nat.eq_zero_or_pos m with h0 | h0
        · subst h0
          have hnil : news = [] := List.eq_nil_of_length_eq_zero (by simpa using r1)
          subst hnil
          simp at hu
        · exact h0
      have := ha hm
      simp only [Option.some.injEq] at this
      subst this
      have hadd : (⟨b, off, none⟩ : Addr).add j = ⟨b, off + j, none⟩ := by unfold Addr.add; split <;> simp_all
      rw [hadd]
      exact hc j u hu
    · intro v' w' h2 h3 _ _
      exact h v' w' h2 (Keep.grown h3 (fun i hi => hi))
theorem JRs.one {w : World} {vs : List Value} {rs : List (List Nat)} (h : JRs w vs rs) : ∀ u ∈ vs, u.oneCell' = true := by
  intro u hu
  obtain ⟨i, hi⟩ := List.mem_iff_getElem?.1 hu
  have hil := (List.getElem?_eq_some_iff.1 hi).1
  obtain ⟨r, hr⟩ : ∃ r, rs[i]? = some r := ⟨_, List.getElem?_eq_getElem (by have := h.1; omega)⟩
  obtain ⟨a, n, c, rfl, _⟩ := h.2 i u r hi hr
  rfl
theorem JRs.below {w w' : World} {vs : List Value} {rs : List (List Nat)} (h : JRs w vs rs) (b : Below w.heap.size w w') : JRs w' vs rs := h.keep (Keep.of (S := fun _ => False) b) (fun _ _ h => h.elim)
theorem JRs.cons {w : World} {vs : List Value} {rs : List (List Nat)} {v : Value} {r : List Nat} (hv : ByA w v r) (h : JRs w vs rs) : JRs w (v :: vs) (r :: rs) := by
  refine ⟨by simp [h.1], fun i u s hu hs => ?_⟩
  cases i with
  | zero =>
    simp only [List.getElem?_cons_zero, Option.some.injEq] at hu hs
    subst hu hs
    exact hv
  | succ i => exact h.2 i u s (by simpa using hu) (by simpa using hs)
theorem MpAt.cellsNe {w : World} {mb n : Nat} {M : Mp} (h : MpAt w mb M n) {g : Nat} {cs : Array Value} {t : TypeId} {fr : Nat × Nat} (hg : w.heap[g]? = some (.cells cs t fr)) : g ≠ mb := fun e => by rw [e] at hg; exact h.no_cells hg
theorem StB.keepM {w w' : World} {mb n sb jb mb' : Nat} {M : Mp} (h : StB w sb jb mb') (mp : MpAt w mb M n) (k : Keep (fun i => i = mb) w w') : StB w' sb jb mb' := h.keep k (mp.cellsNe h)
theorem JourAt.keepM {w w' : World} {mb n jb db B half next turn : Nat} {M : Mp} {chk st : List Nat} {rv : Value} {rs : List (List Nat)} (h : JourAt w jb db B half next turn chk st rv rs) (mp : MpAt w mb M n) (k : Keep (fun i => i = mb) w w') : JourAt w' jb db B half next turn chk st rv rs :=
  h.keep k (fun i _ e => e ▸ mp.noBy) (by obtain ⟨sv, j1, _⟩ := h.ex; exact mp.cellsNe j1.cell) (fun g hg => by obtain ⟨vs, o, _⟩ := h.row; obtain ⟨cur, hc⟩ := own_obj o hg; exact mp.cellsNe hc)
theorem DiskAt.keepM {w w' : World} {mb n db B : Nat} {M : Mp} {sd : Value} {C : List (List Nat)} (h : DiskAt w db B sd (.slice none 0 0) C []) (mp : MpAt w mb M n) (k : Keep (fun i => i = mb) w w') : DiskAt w' db B sd (.slice none 0 0) C [] :=
  h.keep k (fun i _ e => e ▸ mp.noBy) (mp.cellsNe h.cell) (fun g hg => by obtain ⟨vs, o, _⟩ := h.sure; obtain ⟨cur, hc⟩ := own_obj o hg; exact mp.cellsNe hc) (fun g hg => nomatch hg)
def JOk (w : World) (Z : Nat → Prop) (db Bd : Nat) (sd : Value) (C : List (List Nat)) (half next turn : Nat) (chk st : List Nat) (rs : List (List Nat)) (e : Ending) (w' : World) : Prop :=
  ∃ jb rv, e = .returned (.tuple #[.pointer (some ⟨jb, 0, none⟩), .int .i64 0]) ∧ JourAt w' jb db w.heap.size half next turn chk st rv rs ∧ DiskAt w' db Bd sd (.slice none 0 0) C [] ∧ Keep Z w w'
def SOp (w : World) (Z : Nat → Prop) (db : Nat) (sd : Value) (N next : Nat) (bodies : List (List Nat)) (e : Ending) (w' : World) : Prop :=
  Keep Z w w' ∧ match openS (fun _ => none) bodies with
  | none => e = .returned (.tuple #[.pointer none, .int .i64 21])
  | some M => ∃ sb S n, e = .returned (.tuple #[.pointer (some ⟨sb, 0, none⟩), .int .i64 0]) ∧ StoA w' S sb M n N next ∧ n ≤ bodies.length * 128 ∧ (∀ i, S i → i = db ∨ sd.ownBlock = some i ∨ w.heap.size ≤ i)
/-- the loop's state -/
def SOI (w5 : World) (mb : Nat) (bodies : List (List Nat)) (i : Nat) (wr : World) : Prop :=
  ∃ M n, openS (fun _ => none) bodies = openS M (bodies.drop i) ∧ MpAt wr mb M n ∧ n ≤ i * 128 ∧ Keep (fun i => i = mb) w5 wr
set_option maxRecDepth 100000 in
set_option maxHeartbeats 8000000 in
theorem sopen_walk {w : World} {Z : Nat → Prop} {db Bd half next turn : Nat} {sd : Value} {C : List (List Nat)} {chk st : List Nat} {rs : List (List Nat)} (JO : Calls Tryz.prog 8 #[.pointer (some ⟨db, 0, none⟩)] w (JOk w Z db Bd sd C half next turn chk st rs))
    (hlt : db < w.heap.size ∧ ∀ g, sd.ownBlock = some g → g < w.heap.size) (hh : half ≤ 1) (hst : st.length ≤ 1000000) (hrs : rs.length ≤ next) (hnx : next ≤ C.length / 2) (hl : ∀ r ∈ rs, r.length ≤ 1000000) :
    Calls Tryz.prog 12 #[.pointer (some ⟨db, 0, none⟩)] w (SOp w Z db sd (C.length / 2) next (st :: rs)) := by
  have JH := hid JO
  have SEP := hid (show Sep db sd w.heap.size from hlt)
  have HH := hid hh
  have ST := hid hst
  have RN := hid hrs
  have NX := hid hnx
  have RL := hid hl
  clear JO hlt hh hst hrs hnx hl
  go_enter Tryz.func12, Tryz.ntmps12
  go_wp2_with (fail)
  refine JH.out.mono ?_
  rintro e w1 ⟨jb, rv, rfl, j1, d1, k1⟩
  have J1 := hid j1
  have D1 := hid d1
  have K1 := hid k1
  have few := hid (show rs.length ≤ 2048 by have := d1.few; have := RN.out; have := NX.out; omega)
  clear j1 d1 k1
  obtain ⟨mb, hmb⟩ : ∃ mb, w1.heap.size = mb := ⟨_, rfl⟩
  have M1 := hid (show MpAt (w1.alloc (.map #[] 0)) mb (fun _ => none) 0 from hmb ▸ MpAt.made w1)
  have B1 := hid ((Below.refl w1.heap.size w1).alloc (Nat.le_refl _) (.map #[] 0))
  have LM := hid (show w.heap.size ≤ mb from hmb ▸ K1.out.size)
  have hmm := @run_makeMap Tryz.prog
  go_upto_region 5 with (fail)
  clear hmm
  refine newW ?_
  intro w3 H3 B3
  obtain ⟨sb, hsb⟩ := nameS H3.out
  rw [hsb] at H3
  have e1 : mb + 1 = sb := by rw [← hsb, ← hmb]; simp
  simp only [e1]
  have LS := hid (show w1.heap.size ≤ sb by rw [← hsb]; exact B1.out.size)
  have SB3 := hid (show StB w3 sb jb mb from H3.out)
  have B13 := hid (B1.out.trans (B3.out.mono B1.out.size))
  have M3 := hid (M1.out.below B3.out)
  have J3 := hid (J1.out.below B13.out)
  have D3 := hid (D1.out.below B13.out)
  have K3 := hid (K1.out.trans (Keep.of B13.out))
  clear M1 B1 H3 B3 hsb hmb J1 D1 e1
  go_wp2_with (fail)
  refine (jstate_walk J3.out (by have := ST.out; omega)).mono ?_
  rintro e w4 ⟨v4, rfl, o4, b4⟩
  have A4 := hid (ByA.own o4 (by obtain ⟨sv, _, _, _, _, _, _, hb, _⟩ := J3.out.ex; exact hb))
  have B4 := hid b4
  obtain ⟨a4, c4, rfl, _⟩ := Rd.of_owns o4
  clear o4 b4
  have bw := (Below.refl w4.heap.size w4).alloc (Nat.le_refl _) (.cells #[.slice a4 st.length c4] 22)
  have B4w := hid (B4.out.trans (bw.mono B4.out.size))
  have OL := hid (own_new w4 #[.slice a4 st.length c4] 22 (size := 1) (n := 1) (B := w4.heap.size) rfl (Nat.le_refl _) (by decide))
  have A4w := hid (A4.out.below bw)
  clear bw
  go_wp2_with (fail)
  refine (jrecs_walk (J3.out.below B4w.out) (by have := few.out; omega) (fun r hr => by have := RL.out r hr; omega)).mono ?_
  rintro e w5 ⟨v5, vs, rfl, o5, r5, b5⟩
  have R5 := hid (JRs.cons (A4w.out.below b5) r5)
  have ON := hid r5.one
  obtain ⟨a5, c5, rfl, rd5⟩ := Rd.of_owns o5
  have RD5 := hid rd5
  have OL5 := hid (own_below OL.out b5)
  have B5 := hid (B4w.out.trans (b5.mono B4w.out.size))
  have L45 := hid (show w3.heap.size ≤ w4.heap.size ∧ w4.heap.size ≤ w5.heap.size from ⟨B4.out.size, Nat.le_trans (by simp) b5.size⟩)
  clear o5 r5 rd5 b5 OL A4 A4w B4 B4w
  obtain ⟨T, hT⟩ : ∃ T, T = 1 + rs.length := ⟨_, rfl⟩
  have TT := hid hT
  clear hT
  go_wp2_with (at_builtin; refine wpList_catK rfl _ _ 39 rfl tySs w4.heap.size OL5.out rfl rfl RD5.out ON.out (by have := few.out; omega) (by have := few.out; unfold maxLen; omega) L45.out.2 ?_; intro v6 w6 own6 k6; rw [← TT.out] at own6; obtain ⟨a6, c6, rfl, rd6⟩ := Rd.of_owns own6)
  have R6 := hid (R5.out.keep k6 (fun i _ e => own_noBy OL5.out (by decide) e))
  have B36 := hid (B5.out.trans (k6.below (fun i e => by simp only [Value.ownBlock, Option.some.injEq] at e; have := L45.out.1; omega) B5.out.size))
  have RD6 := hid rd6
  have SB6 := hid (SB3.out.below B36.out)
  have M6 := hid (M3.out.below B36.out)
  have J6 := hid (J3.out.below B36.out)
  have D6 := hid (D3.out.below B36.out)
  have K6 := hid (K3.out.trans (Keep.of B36.out))
  obtain ⟨bds, hbd⟩ : ∃ bds, bds = st :: rs := ⟨_, rfl⟩
  have BD := hid hbd
  rw [← hbd] at R6 ⊢
  have BL := hid (show bds.length = T by rw [hbd, TT.out, List.length_cons]; omega)
  have B8 := hid (show ∀ b ∈ bds, b.length ≤ 1000000 by
    intro b hb
    rw [hbd] at hb
    rcases List.mem_cons.1 hb with rfl | hb
    · exact ST.out
    · exact RL.out b hb)
  clear own6 k6 rd6 hbd SB3 M3 J3 D3 K3 R5 OL5 RD5 ON B36 B5 L45 LS B13
  go_loopw [30] (fun x30 wr => ∃ i : Nat, i ≤ T ∧ x30 = .int .i64 (i : Int) ∧ SOI w6 mb bds i wr) (fun x30 _ => T - (intOf x30).toNat)
  case atStart => exact ⟨0, Nat.zero_le _, rfl, _, 0, rfl, M6.out, Nat.le_refl _, Keep.refl _ _⟩
  case round =>
    obtain ⟨i, hi, rfl, M, n, ho, hm, hle, hk⟩ := hrel
    have OS := hid ho
    have MR := hid hm
    have NL := hid hle
    have KR := hid hk
    clear ho hm hle hk
    by_cases hlt : i < T
    case neg =>
      obtain rfl : i = T := by omega
      have t1 : decide (i < i) = false := decide_eq_false (by omega)
      have t2 : decide ((i : Int) < (i : Int)) = false := decide_eq_false (by omega)
      have E := hid (show openS (fun _ => none) bds = some M by rw [OS.out, List.drop_eq_nil_of_le (by rw [BL.out]; exact Nat.le_refl _)]; rfl)
      clear hi hlt
      go_wp2_with (fail)
      go_ret2
      refine ⟨K6.out.then KR.out (fun i hi e => ?_), ?_⟩
      · have := LM.out; omega
      · first | rw [E.out] | rw [← BD.out, E.out]
        refine ⟨sb, fun i => i = db ∨ sd.ownBlock = some i ∨ i = jb ∨ rv.ownBlock = some i ∨ i = mb, n, rfl, ⟨db, jb, mb, Bd, w.heap.size, half, turn, chk, st, rv, sd, rs, C, SB6.out.keepM M6.out KR.out, MR.out, J6.out.keepM M6.out KR.out, D6.out.keepM M6.out KR.out, HH.out, SEP.out, rfl, RN.out, NX.out, fun i => Iff.rfl⟩, by rw [BL.out]; exact NL.out, fun q hq => ?_⟩
        rcases hq with e | e | e | e | e
        · exact .inl e
        · exact .inr (.inl e)
        · rw [e]; exact .inr (.inr J6.out.lo)
        · obtain ⟨vs', o', _⟩ := J6.out.row
          exact .inr (.inr (o'.lt _ e).1)
        · rw [e]; exact .inr (.inr LM.out)
    have t1 : decide (i < T) = true := decide_eq_true hlt
    have t2 : decide ((i : Int) < (T : Int)) = true := decide_eq_true (by omega)
    have hib : i < bds.length := by rw [BL.out]; exact hlt
    obtain ⟨b, hb⟩ : ∃ b, bds[i]? = some b := ⟨_, List.getElem?_eq_getElem hib⟩
    obtain ⟨u, hu⟩ : ∃ u, (Value.slice a4 st.length c4 :: vs)[i]? = some u := ⟨_, List.getElem?_eq_getElem (by rw [R6.out.1]; exact hib)⟩
    have DR := hid (show bds.drop i = b :: bds.drop (i + 1) by
      obtain ⟨h, rfl⟩ := List.getElem?_eq_some_iff.1 hb
      exact List.drop_eq_getElem_cons h)
    obtain ⟨ab, nb, cb, rfl, s8, b8, _⟩ := ((R6.out.keep KR.out (fun i _ e => e ▸ M6.out.noBy)).2 i u b hu hb)
    obtain ⟨_, _, _, _, pb, poff, ha, hc⟩ := M6.out.rd KR.out RD6.out
    obtain rfl := ha (by omega)
    have cq := hc i _ hu
    have BB := hid (B8.out b (List.mem_of_getElem? hb))
    have DW := hid (sdec_walk ab nb cb b b8 (by rw [← s8.len]; exact BB.out) wr s8)
    obtain ⟨i1, hi1⟩ : ∃ i1, i1 = i + 1 := ⟨_, rfl⟩
    have r4 : IntKind.i64.wrap ((i : Int) + 1) = (i1 : Int) := by have := few.out; have := TT.out; rw [IntKind.wrap_i64]; omega
    have I1 := hid hi1
    have LT := hid hlt
    clear hi hlt hib hb hu s8 b8 ha hc hi1
    go_wp2_with (fail)
    refine DW.out.mono ?_
    rintro e w8 ⟨hb8, hm8⟩
    have BW := hid hb8
    cases hdb : decB b with
    | none =>
      rw [hdb] at hm8
      subst hm8
      have E := hid (show openS (fun _ => none) bds = none by rw [OS.out, DR.out, openS, hdb])
      clear hdb hb8 DW
      go_wp2_with (fail)
      go_ret2
      refine ⟨(K6.out.then KR.out (fun i hi e => by have := LM.out; omega)).trans (Keep.of BW.out), ?_⟩
      first | rw [E.out] | rw [← BD.out, E.out]
      rfl
    | some cs =>
      rw [hdb] at hm8
      obtain ⟨ac, Nc, cc, lc, rfl, hch, hmap, hvl, hNc⟩ := hm8
      have E := hid (show openS (fun _ => none) bds = openS (takeM M (lc.map LC.chg)) (bds.drop (i + 1)) by rw [OS.out, DR.out, openS, hdb, hmap])
      have TK := hid (take_walk ((SB6.out.keepM M6.out KR.out).below BW.out) (MR.out.below BW.out) ac Nc cc lc hch (by have := NL.out; have := few.out; have := TT.out; have := LT.out; omega) (fun l hl => by have := hvl l hl; have := BB.out; omega))
      have NC := hid hNc
      clear hdb hb8 DW hch hmap hvl hNc
      go_wp2_with (fail)
      refine TK.out.mono ?_
      rintro e w9 ⟨rfl, m', hm9, hl9, hk9⟩
      have M9 := hid hm9
      have L9 := hid hl9
      have K9 := hid hk9
      clear hm9 hl9 hk9 TK
      go_wp2_with (fail)
      go_roundw
      case rel => exact ⟨i1, by have := I1.out; have := LT.out; omega, rfl, _, m', by rw [I1.out]; exact E.out, M9.out, by have := L9.out; have := NL.out; have := NC.out; have := I1.out; omega, KR.out.trans ((Keep.of BW.out).trans K9.out)⟩
      case measure => simp [intOf]; have := I1.out; have := LT.out; omega
end Go.Proofs.YtnophelfpoldfaaGreatDoor
