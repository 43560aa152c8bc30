/- The law's is: has a store just these? -/
import Derived.Test.YtnophelfpoldfaaGreatDoorSth
import Derived.Test.YtnophelfpoldfaaGreatDoorStn
namespace Go.Proofs.YtnophelfpoldfaaGreatDoor
open Go.RowKit

set_option maxRecDepth 100000 in
set_option maxHeartbeats 8000000 in
theorem is_walk {w : World} {sb jb mb n : Nat} {M : Mp} (hs : StB w sb jb mb) (hm : MpAt w mb M n) (hn : n ≤ 1000000) (a : Option Addr) (N c : Nat) (all : List LP) (hp : Prs w a N c all) (ip : IsP (all.map LP.pa) M) :
    Calls Tryz.prog 13 #[.pointer (some ⟨sb, 0, none⟩), .slice a N c] w fun e w' => e = .returned (.bool true) ∧ Below w.heap.size w w' := by
  have SB := hid hs
  have MP := hid hm
  have HN := hid hn
  have PP := hid hp
  have IP := hid ip
  have LL := hid hp.2.1
  have KW := hid (Keys_walk hs hm hn none 0 0 [] (sl_nilG w))
  clear hs hm hn hp ip
  go_enter Tryz.func13, Tryz.ntmps13
  go_wp2_with (fail)
  refine KW.out.mono ?_
  rintro e w1 ⟨v1, ks, vs, rfl, hks, hkl, o1, _, b1⟩
  have KN : ks.length = N := by
    have := IP.out.len (ks := ks.map n8k) hks.nd (fun k => by
      constructor
      · intro hk
        exact ((hks.mem k (hks.ok k hk)).1 hk).1
      · intro h1
        have ok := MP.out.ok k h1
        exact (hks.mem k ok).2 ⟨h1, rfl⟩)
    rw [List.length_map, List.length_map] at this
    rw [this]; exact LL.out
  rw [KN] at o1
  obtain ⟨a1, c1, rfl, _⟩ := Rd.of_owns o1
  have B1 := hid b1
  have NN := hid (show N ≤ 1000000 by have := HN.out; omega)
  clear hks hkl o1 b1 KN KW
  go_wp2_with (fail)
  go_loopw [21] (fun x21 wr => ∃ i : Nat, i ≤ N ∧ x21 = .int .i64 (i : Int) ∧ Below w.heap.size w wr) (fun x21 _ => N - (intOf x21).toNat)
  case atStart => exact ⟨0, Nat.zero_le _, rfl, B1.out⟩
  case round =>
    obtain ⟨i, hi, rfl, hb⟩ := hrel
    have BR := hid hb
    clear hb
    by_cases hlt : i < N
    case neg =>
      obtain rfl : i = N := by omega
      have t1 : decide (i < i) = false := decide_eq_false (by omega)
      have t2 : decide ((i : Int) < (i : Int)) = false := decide_eq_false (by omega)
      clear hi hlt
      go_wp2_with (fail)
      go_ret
      exact ⟨rfl, BR.out⟩
    have t1 : decide (i < N) = true := decide_eq_true hlt
    have t2 : decide ((i : Int) < (N : Int)) = true := decide_eq_true (by omega)
    obtain ⟨p, hp⟩ := get_some LL.out hlt
    obtain ⟨pb, poff, rfl, p0, p1, _⟩ := (PP.out.below BR.out).cells hp
    have GP := hid (PP.out.2.2 p (List.mem_of_getElem? hp))
    have MV := hid (show M p.k = some p.v from (IP.out.mem p.k p.v).1 (List.mem_map_of_mem (f := LP.pa) (List.mem_of_getElem? hp)))
    obtain ⟨i1, hi1⟩ : ∃ i1, i1 = i + 1 := ⟨_, rfl⟩
    have r4 : IntKind.i64.wrap ((i : Int) + 1) = (i1 : Int) := by have := NN.out; rw [IntKind.wrap_i64]; omega
    have I1 := hid hi1
    have LT := hid hlt
    obtain ⟨pka, pkc, pk, pva, pvc, pv⟩ := p
    obtain ⟨vn, hvn⟩ : ∃ vn, vn = pv.length := ⟨_, rfl⟩
    have VN := hid hvn
    have p0' : wr.cell? ⟨pb, poff + i * 2, none⟩ = some (.slice pka pk.length pkc) := p0
    have p1' : wr.cell? ⟨pb, poff + i * 2 + 1, none⟩ = some (.slice pva vn pvc) := by rw [hvn]; exact p1
    clear p0 p1 hp hi hlt hi1 hvn
    go_upto_region 6 with (fail)
    refine newW ?_
    intro wp HP BP
    have f0 : wp.cell? ⟨wr.heap.size, 0, none⟩ = some (.slice pka pk.length pkc) := gen_cell (L := [.slice pka pk.length pkc, .slice pva vn pvc]) (j := 0) (row_range HP.out) rfl
    have f1 : wp.cell? ⟨wr.heap.size, 1, none⟩ = some (.slice pva vn pvc) := gen_cell (L := [.slice pka pk.length pkc, .slice pva vn pvc]) (j := 1) (row_range HP.out) rfl
    have F1 := hid f1
    have BW := hid (BR.out.trans (BP.out.mono BR.out.size))
    have GW := hid (get_walk (SB.out.below BW.out) (MP.out.below BW.out) pka pk.length pkc pk (GP.out.ks.below BW.out) GP.out.k8)
    rw [MV.out] at GW
    clear p0' p1' f1
    go_wp2_with (fail)
    refine GW.out.mono ?_
    rintro e w9 ⟨v9, rfl, o9, b9⟩
    have o9' : w9.ownsRow wp.heap.size 5 1 v9 vn (nums .u8 pv) := by rw [VN.out]; exact o9
    obtain ⟨a9, c9, rfl, _⟩ := Rd.of_owns o9'
    have B9 := hid (BW.out.trans (b9.mono BW.out.size))
    have SW := hid (same_walk a9 pva vn c9 vn pvc pv pv GP.out.v8 GP.out.v8 w9 (sl_of_own o9') (by rw [VN.out]; exact GP.out.vs.below B9.out))
    rw [decide_eq_true (rfl : pv = pv)] at SW
    have f2 := cell_keep b9 F1.out
    clear o9 o9' b9 GW f0
    go_wp2_with (fail)
    refine SW.out.mono ?_
    rintro e w10 ⟨rfl, rfl⟩
    go_wp2_with (fail)
    go_roundw
    case rel => exact ⟨i1, by have := I1.out; have := LT.out; omega, rfl, B9.out⟩
    case measure => simp [intOf]; have := I1.out; have := LT.out; omega
end Go.Proofs.YtnophelfpoldfaaGreatDoor
