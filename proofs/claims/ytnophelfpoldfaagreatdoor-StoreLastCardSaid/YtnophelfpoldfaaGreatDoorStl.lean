/- StoreLast: of several changes of one key the last one counts. -/
import Derived.Test.YtnophelfpoldfaaGreatDoorSth
import Derived.Test.YtnophelfpoldfaaGreatDoorGSts
import Derived.Test.YtnophelfpoldfaaGreatDoorGOnce
namespace Go.Proofs.YtnophelfpoldfaaGreatDoor
open Go.RowKit

def mkL (a : Option Addr) (c : Nat) (key : List Nat) (b : BS) : LC := ⟨a, c, key, b.a, b.c, b.v, false⟩
theorem take_same (key : List Nat) : ∀ (vs : List (List Nat)) (M : Mp), takeM M (vs.map fun v => ⟨key, v, false⟩) = fun x => if x = key then (match vs.getLast? with | some v => some v | none => M key) else M x := by
  intro vs
  induction vs with
  | nil => intro M; funext x; by_cases h : x = key <;> simp [takeM, h]
  | cons v r ih =>
    intro M
    have e : takeM M ((v :: r).map fun v => ⟨key, v, false⟩) = takeM (stepM M ⟨key, v, false⟩) (r.map fun v => ⟨key, v, false⟩) := rfl
    rw [e, ih]
    funext x
    by_cases h : x = key
    · subst h
      simp only [if_true]
      cases r with
      | nil => simp [stepM]
      | cons y t =>
        rw [List.getLast?_cons_cons]
        cases hl : (y :: t).getLast? with
        | none => simp at hl
        | some z => rfl
    · simp [h, stepM]
/-- what there is in the end -/
def lastM (key : List Nat) (last : List Nat) (gone : Bool) : Mp := fun x => if x = key then (if gone then none else some last) else none
theorem lastM_take {key : List Nat} {vs : List (List Nat)} {last : List Nat} (h : vs.getLast? = some last) (gone : Bool) :
    takeM (fun _ => none) (vs.map (fun v => ⟨key, v, false⟩) ++ (if gone then [⟨key, [], true⟩] else [])) = lastM key last gone := by
  rw [takeM_append, take_same, h]
  cases gone with
  | false => funext x; simp [takeM, lastM]
  | true =>
    funext x
    by_cases e : x = key <;> simp [takeM, stepM, lastM, e]
theorem mkL_chg (a : Option Addr) (c : Nat) (key : List Nat) (ls : List BS) : (ls.map (mkL a c key)).map LC.chg = (ls.map BS.v).map fun v => ⟨key, v, false⟩ := by
  rw [List.map_map, List.map_map]; rfl
/-- what the list of changes reads as -/
structure LastL (w : World) (B : Nat) (w3 : World) (a : Option Addr) (c : Nat) (key : List Nat) (v : Value) (cs : List LC) (wr : World) : Prop where
  own : wr.ownsRow w3.heap.size 42 3 v cs.length (cs.flatMap LC.cells)
  good : ∀ l ∈ cs, l.good w
  bel : Below w3.heap.size w3 wr
theorem Rd.own_slice {w : World} {B : Nat} {e : TypeId} {size : Nat} {a : Option Addr} {n cap : Nat} {xs : List Value} (h : w.ownsRow B e size (.slice a n cap) n xs) : Rd w size a n cap xs := by
  obtain ⟨a', cap', he, hr⟩ := Rd.of_owns h
  simp only [Value.slice.injEq, true_and] at he
  obtain ⟨rfl, rfl⟩ := he
  exact hr
theorem last_put {w w3 wr : World} {S : Nat → Prop} {sb m0 N : Nat} {cs : List LC} {a7 : Option Addr} {c7 : Nat} (sa : StoA w3 S sb (fun _ => none) m0 N 1) (hm0 : m0 ≤ 128) (hN : 100 ≤ N) (hs : ∀ i, S i → w.heap.size ≤ i ∧ i < w3.heap.size) (b3 : Below w.heap.size w w3)
    (own : wr.ownsRow w3.heap.size 42 3 (.slice a7 cs.length c7) cs.length (cs.flatMap LC.cells)) (good : ∀ l ∈ cs, l.good w) (bel : Below w3.heap.size w3 wr) (ht : Tabs w)
    (hk : ∀ l ∈ cs, 0 < l.k.length ∧ l.k.length ≤ 128 ∧ (l.g = true → l.v = [])) (hv : ∀ l ∈ cs, l.v.length ≤ 200) (hlen : cs.length ≤ 21) (hroom : cs.length ≤ 6 ∨ 1000 ≤ N) :
    Calls Tryz.prog 14 #[.pointer (some ⟨sb, 0, none⟩), .slice a7 cs.length c7] wr fun e w' => e = .returned (.int .i64 0) ∧ (∃ jb mb n, StB w' sb jb mb ∧ MpAt w' mb (takeM (fun _ => none) (cs.map LC.chg)) n ∧ n ≤ 1000) ∧ Below w.heap.size w w' := by
  have bw := b3.trans (bel.mono b3.size)
  have bk : ∀ w', Keep S wr w' → Below w.heap.size w w' := fun w' k => bw.trans (k.below (fun i hi => (hs i hi).1) bw.size)
  have hb := encC_bytes (cs.map LC.chg) 128 200 (fun c hc => by
    obtain ⟨l, hl, rfl⟩ := List.mem_map.1 hc
    exact ⟨(hk l hl).2.1, hv l hl⟩)
  rw [List.length_map] at hb
  refine (sput_walk (sa.below bel) (ht.below bw) a7 cs.length c7 cs (fun w' k => ⟨?_, rfl, fun l hl => (good l hl).below (bk w' k)⟩) hk hv (by omega) (by omega) _ rfl (by omega)).mono ?_
  · exact Rd.own_slice (k.own own (fun g hg h => by have := (own.lt g hg).1; have := (hs g h).2; omega))
  · rintro e w' ⟨⟨rfl, S', m', sa', hm', _⟩, k⟩
    obtain ⟨jb, mb, sB, mp⟩ := sa'.look
    exact ⟨rfl, ⟨jb, mb, m', sB, mp, by omega⟩, bk w' k⟩
set_option maxRecDepth 100000 in
set_option maxHeartbeats 8000000 in
theorem slast_walk (a : Option Addr) (n c : Nat) (key : List Nat) (a' : Option Addr) (L c' : Nat) (ls : List BS) (gone : Bool) (hb8 : ∀ d ∈ key, d < 256) (w : World) (hk : Sl .u8 w a n c key) (h : Parts w a' L c' ls) (ht : Tabs w) :
    Calls Tryz.prog 4 #[.slice a n c, .slice a' L c', .bool gone] w fun e w' => e = .returned (.bool true) ∧ Below w.heap.size w w' := by
  have HT := hid ht
  have HK := hid hk
  have H8 := hid hb8
  have HP := hid h
  have KL := hid hk.len
  clear ht hk hb8 h
  go_enter Tryz.func4, Tryz.ntmps4
  go_wp2_with (fail)
  refine (shead_walk w HT.out).mono ?_
  rintro e w1 ⟨rfl, b1⟩
  have B1 := hid b1
  clear b1
  by_cases h1 : n = 0
  case pos =>
    subst h1
    go_wp2_with (fail)
    go_ret
    exact ⟨rfl, B1.out⟩
  have p1 : ¬ (n : Int) = 0 := by omega
  have p1' : ((n : Int) == 0) = false := beq_eq_false_iff_ne.2 p1
  by_cases h2 : 128 < n
  case pos =>
    have p2 : decide (128 < n) = true := decide_eq_true h2
    have p2' : decide ((128 : Int) < (n : Int)) = true := decide_eq_true (by omega)
    clear h2
    go_wp2_with (fail)
    go_ret
    exact ⟨rfl, B1.out⟩
  have p2 : decide (128 < n) = false := decide_eq_false h2
  have p2' : decide ((128 : Int) < (n : Int)) = false := decide_eq_false (by omega)
  by_cases h3 : L = 0
  case pos =>
    subst h3
    go_wp2_with (fail)
    go_ret
    exact ⟨rfl, B1.out⟩
  have p3 : ¬ (L : Int) = 0 := by omega
  have p3' : ((L : Int) == 0) = false := beq_eq_false_iff_ne.2 p3
  by_cases h4 : 20 < L
  case pos =>
    have p4 : decide (20 < L) = true := decide_eq_true h4
    have p4' : decide ((20 : Int) < (L : Int)) = true := decide_eq_true (by omega)
    clear h4 h2
    go_wp2_with (fail)
    go_ret
    exact ⟨rfl, B1.out⟩
  have p4 : decide (20 < L) = false := decide_eq_false h4
  have p4' : decide ((20 : Int) < (L : Int)) = false := decide_eq_false (by omega)
  have N1 := hid (show 0 < n ∧ n ≤ 128 by omega)
  have N2 := hid (show 0 < L ∧ L ≤ 20 by omega)
  clear h2 h4
  go_wp2_with (fail)
  refine (dnew_walk 2000 rfl w1).mono ?_
  rintro e w2 ⟨rfl, d2⟩
  have D2 := hid (show NewR w1 2000 w2 from d2)
  clear d2
  go_wp2_with (fail)
  refine (fresh_open (n := 2000) (by decide) (HT.out.below B1.out) D2.out).mono ?_
  rintro e w3 ⟨sb, S, m0, rfl, sa, hm0, b3, hs⟩
  have SA := hid sa
  have HM := hid hm0
  have B3 := hid (B1.out.trans (b3.mono B1.out.size))
  have HS := hid (show ∀ i, S i → w.heap.size ≤ i ∧ i < w3.heap.size from fun i hi => ⟨Nat.le_trans B1.out.size (hs i hi), sa.lt i hi⟩)
  have OE := hid (World.ownsRow_made (base := w3.heap.size) (e := 42) (size := 3) w3 #[] 0 (Nat.le_refl _) (by simp) (by simp))
  have BE := hid ((Below.refl w3.heap.size w3).alloc (Nat.le_refl _) (.cells #[] 42))
  have PL := hid HP.out.2.1
  clear sa hm0 b3 hs D2 B1 h1 h3
  go_wp2_with (fail)
  go_loopw [9, 45] (fun x9 x45 wr => ∃ (j : Nat) (v9 : Value), v9 = x9 ∧ j ≤ L ∧ x45 = .int .i64 (j : Int) ∧ LastL w 0 w3 a c key v9 ((ls.take j).map (mkL a c key)) wr ∧ ∀ b ∈ ls.take j, b.v.length ≤ 200) (fun _ x45 _ => L - (intOf x45).toNat)
  case atStart => exact ⟨0, _, rfl, Nat.zero_le _, rfl, ⟨OE.out, by simp, BE.out⟩, by simp⟩
  case round =>
    obtain ⟨j, v9, rfl, hj, rfl, hl9, hsh⟩ := hrel
    have L9 := hid hl9
    have SHT := hid hsh
    clear hl9 hsh
    by_cases hlt : j < L
    case pos =>
      have t1 : decide (j < L) = true := decide_eq_true hlt
      have t2 : decide ((j : Int) < (L : Int)) = true := decide_eq_true (by omega)
      obtain ⟨r, hr⟩ := get_some PL.out hlt
      have BWR := hid (B3.out.trans (L9.out.bel.mono B3.out.size))
      obtain ⟨b, off, rfl, c0, gd⟩ := (HP.out.below BWR.out).cells hr
      have GR := hid (HP.out.2.2 r (List.mem_of_getElem? hr))
      have TK := hid (show ls.take (j + 1) = ls.take j ++ [r] from take_succ_some hr)
      obtain ⟨j1, hj1⟩ : ∃ j1, j1 = j + 1 := ⟨_, rfl⟩
      have r4 : IntKind.i64.wrap ((j : Int) + 1) = (j1 : Int) := by have := N2.out; rw [IntKind.wrap_i64]; omega
      have J1 := hid hj1
      have LT := hid hlt
      obtain ⟨ra, rc, rv⟩ := r
      obtain ⟨rn, hrn⟩ : ∃ rn, rn = rv.length := ⟨_, rfl⟩
      have RN := hid hrn
      have d0 : wr.cell? ⟨b, off + j, none⟩ = some (.slice ra rn rc) := by rw [hrn]; exact c0
      have GRs := hid (show Sl .u8 w ra rn rc rv by rw [hrn]; exact GR.out.1)
      clear c0 gd hr hj hlt hj1 hrn
      by_cases h5 : 200 < rn
      case pos =>
        have p5 : decide (200 < rn) = true := decide_eq_true h5
        have p5' : decide ((200 : Int) < (rn : Int)) = true := decide_eq_true (by omega)
        clear h5
        go_wp2_with (fail)
        go_ret
        exact ⟨rfl, BWR.out⟩
      have p5 : decide (200 < rn) = false := decide_eq_false h5
      have p5' : decide ((200 : Int) < (rn : Int)) = false := decide_eq_false (by omega)
      have R5 := hid (show rn ≤ 200 by omega)
      have OW := hid L9.out.own
      have BL := hid L9.out.bel
      have LJ := hid (show ((ls.take j).map (mkL a c key)).length ≤ 20 by rw [List.length_map, List.length_take]; have := N2.out; have := LT.out; omega)
      clear h5
      go_wp2_with (at_builtin; refine wpList_push rfl _ _ 40 rfl tyCh w3.heap.size OW.out rfl rfl rfl rfl (by have := LJ.out; omega) (by decide) BL.out.size ?_; intro v7 w7 own7 b7 _ _)
      have E7 := hid (show LastL w 0 w3 a c key v7 ((ls.take j1).map (mkL a c key)) w7 from by
        rw [J1.out, TK.out, List.map_append]
        refine ⟨?_, fun l hl => ?_, BL.out.trans b7⟩
        · rw [List.length_append, List.flatMap_append]
          have e : ([(⟨ra, rc, rv⟩ : BS)].map (mkL a c key)).flatMap LC.cells = [.slice a n c, .slice ra rn rc, .bool false] := by simp [mkL, LC.cells, KL.out, RN.out]
          rw [e]
          exact own7
        · rw [List.mem_append] at hl
          rcases hl with hl | hl
          · exact L9.out.good l hl
          · simp only [List.map_cons, List.map_nil, List.mem_cons, List.not_mem_nil, or_false] at hl
            subst hl
            exact ⟨by show Sl .u8 w a key.length c key; rw [KL.out]; exact HK.out, H8.out, GR.out.1, GR.out.2.1⟩)
      clear own7 b7 OW BL L9
      go_wp2_with (fail)
      go_roundw
      case rel =>
        refine ⟨j1, v7, rfl, by have := J1.out; have := LT.out; omega, rfl, E7.out, fun b hb => ?_⟩
        rw [J1.out, TK.out, List.mem_append] at hb
        rcases hb with hb | hb
        · exact SHT.out b hb
        · simp only [List.mem_cons, List.not_mem_nil, or_false] at hb
          subst hb
          show rv.length ≤ 200
          rw [← RN.out]; exact R5.out
      case measure => simp [intOf]; have := J1.out; have := LT.out; omega
    obtain rfl : j = L := by omega
    have t1 : decide (j < j) = false := decide_eq_false (by omega)
    have t2 : decide ((j : Int) < (j : Int)) = false := decide_eq_false (by omega)
    have TA := hid (show ls.take j = ls from List.take_of_length_le (by rw [PL.out]; exact Nat.le_refl _))
    rw [TA.out] at L9 SHT
    -- the last value
    obtain ⟨k, hk⟩ : ∃ k, j = k + 1 := ⟨j - 1, by have := N2.out; omega⟩
    have KK := hid hk
    obtain ⟨r, hr⟩ := get_some PL.out (show k < j by omega)
    have BWR := hid (B3.out.trans (L9.out.bel.mono B3.out.size))
    obtain ⟨b, off, rfl, c0, gd⟩ := (HP.out.below BWR.out).cells hr
    have GR := hid (HP.out.2.2 r (List.mem_of_getElem? hr))
    have GL := hid (show (ls.map BS.v).getLast? = some r.v by
      rw [List.getLast?_eq_getElem?, List.getElem?_map, List.length_map, PL.out, show j - 1 = k by omega, hr]; rfl)
    obtain ⟨ra, rc, rv⟩ := r
    have d0 : wr.cell? ⟨b, off + k, none⟩ = some (.slice ra rv.length rc) := c0
    have r5 : IntKind.i64.wrap ((j : Int) - 1) = (k : Int) := by have := N2.out; rw [IntKind.wrap_i64]; omega
    have q1 : (k : Int) < (j : Int) := by omega
    have q2 : ¬ ((j : Int) ≤ (k : Int)) := by omega
    have q3 : decide (k < j) = true := decide_eq_true (by omega)
    have q4 : decide ((k : Int) < (j : Int)) = true := decide_eq_true (by omega)
    clear c0 gd hr hk hj hlt
    have KO := hid (show ES.ok key from ⟨by rw [KL.out]; have := N1.out; unfold maxLen; omega, H8.out⟩)
    have KM := hid (show ∀ l ∈ ls.map (mkL a c key), 0 < l.k.length ∧ l.k.length ≤ 128 ∧ (l.g = true → l.v = []) from fun l hl => by
      obtain ⟨b, _, rfl⟩ := List.mem_map.1 hl
      exact ⟨by show 0 < key.length; rw [KL.out]; exact N1.out.1, by show key.length ≤ 128; rw [KL.out]; exact N1.out.2, fun h => nomatch h⟩)
    have VM := hid (show ∀ l ∈ ls.map (mkL a c key), l.v.length ≤ 200 from fun l hl => by
      obtain ⟨b, hb, rfl⟩ := List.mem_map.1 hl
      exact SHT.out b hb)
    have LN := hid (show (ls.map (mkL a c key)).length = j by rw [List.length_map, PL.out])
    cases gone with
    | true =>
      have PG := hid (show LC.good w ⟨a, c, key, none, 0, [], true⟩ from ⟨by show Sl .u8 w a key.length c key; rw [KL.out]; exact HK.out, H8.out, sl_nilG w, (show ∀ d ∈ ([] : List Nat), d < 256 by decide)⟩)
      obtain ⟨cs, hcs⟩ : ∃ cs, cs = ls.map (mkL a c key) ++ [⟨a, c, key, none, 0, [], true⟩] := ⟨_, rfl⟩
      have CS := hid hcs
      have CL := hid (show cs.length = j + 1 by rw [hcs, List.length_append, LN.out]; rfl)
      have ME := hid (show takeM (fun _ => none) (cs.map LC.chg) = lastM key rv true by
        rw [hcs, List.map_append, mkL_chg]
        exact lastM_take GL.out true)
      obtain ⟨N7, hN7⟩ : ∃ N7, N7 = cs.length := ⟨_, rfl⟩
      have NN := hid hN7
      have OW := hid L9.out.own
      have BL := hid L9.out.bel
      clear hcs hN7
      go_wp2_with (at_builtin; refine wpList_push rfl _ _ 40 rfl tyCh w3.heap.size OW.out rfl rfl rfl rfl (by have := LN.out; have := N2.out; omega) (by decide) BL.out.size ?_; intro v7 w7 own7 b7 _ _; rw [show (ls.map (mkL a c key)).length + 1 = N7 by rw [NN.out, CL.out, LN.out], show (ls.map (mkL a c key)).flatMap LC.cells ++ _ = cs.flatMap LC.cells by rw [CS.out, List.flatMap_append]; simp [LC.cells, KL.out]] at own7; obtain ⟨a7, c7, rfl, rd7⟩ := Rd.of_owns own7)
      have PU := hid (last_put (w := w) (wr := w7) (cs := cs) (a7 := a7) (c7 := c7) SA.out HM.out (by decide) HS.out B3.out (by rw [← NN.out]; exact own7) (fun l hl => by
        rw [CS.out, List.mem_append] at hl
        rcases hl with hl | hl
        · exact L9.out.good l hl
        · simp only [List.mem_cons, List.not_mem_nil, or_false] at hl
          subst hl; exact PG.out) (BL.out.trans b7) HT.out (fun l hl => by
        rw [CS.out, List.mem_append] at hl
        rcases hl with hl | hl
        · exact KM.out l hl
        · simp only [List.mem_cons, List.not_mem_nil, or_false] at hl
          subst hl
          exact ⟨by show 0 < key.length; rw [KL.out]; exact N1.out.1, by show key.length ≤ 128; rw [KL.out]; exact N1.out.2, fun _ => rfl⟩) (fun l hl => by
        rw [CS.out, List.mem_append] at hl
        rcases hl with hl | hl
        · exact VM.out l hl
        · simp only [List.mem_cons, List.not_mem_nil, or_false] at hl
          subst hl; simp) (by rw [CL.out]; have := N2.out; omega) (.inr (by decide)))
      rw [← NN.out] at PU
      clear own7 b7 rd7
      refine PU.out.mono ?_
      rintro e w8 ⟨rfl, ⟨jb, mb, nn, sB, mp, hnn⟩, b8⟩
      rw [ME.out] at mp
      have SB := hid sB
      have MP := hid mp
      have HNN := hid hnn
      have B8 := hid b8
      have GW := hid (get_walk sB mp a n c key (HK.out.below b8) H8.out)
      rw [show lastM key rv true key = none by simp [lastM]] at GW
      clear sB mp hnn b8 PU
      go_wp2_with (fail)
      refine GW.out.mono ?_
      rintro e w9 ⟨v9', rfl, o9, b9⟩
      have SB9 := hid (SB.out.below b9)
      have MP9 := hid (MP.out.below b9)
      have B9 := hid (B8.out.trans (b9.mono B8.out.size))
      obtain ⟨a9, c9, rfl, _⟩ := Rd.of_owns o9
      clear o9 b9 GW
      go_wp2_with (fail)
      refine (Keys_walk SB9.out MP9.out (by have := HNN.out; omega) none 0 0 [] (sl_nilG _)).mono ?_
      rintro e w10 ⟨v10, ks, vs, rfl, hks, _, o10, _, b10⟩
      have E10 := keys_none hks (fun x => by by_cases h : x = key <;> simp [lastM, h])
      subst E10
      obtain ⟨a10, c10, rfl, _⟩ := Rd.of_owns o10
      have B10 := hid (B9.out.trans (b10.mono B9.out.size))
      clear hks o10 b10
      go_wp2_with (fail)
      go_ret
      exact ⟨rfl, B10.out⟩
    | false =>
      obtain ⟨cs, hcs⟩ : ∃ cs, cs = ls.map (mkL a c key) := ⟨_, rfl⟩
      have ME := hid (show takeM (fun _ => none) (cs.map LC.chg) = lastM key rv false by
        rw [hcs, mkL_chg]
        have := lastM_take (key := key) GL.out false
        simpa using this)
      rw [← hcs] at L9 LN KM VM
      have OW := hid L9.out.own
      rw [LN.out] at OW
      obtain ⟨a7, c7, rfl, _⟩ := Rd.of_owns OW.out
      have PU := hid (last_put (w := w) (wr := wr) (cs := cs) (a7 := a7) (c7 := c7) SA.out HM.out (by decide) HS.out B3.out (by rw [LN.out]; exact OW.out) L9.out.good L9.out.bel HT.out KM.out VM.out (by rw [LN.out]; have := N2.out; omega) (.inr (by decide)))
      rw [LN.out] at PU
      clear hcs
      go_wp2_with (fail)
      refine PU.out.mono ?_
      rintro e w8 ⟨rfl, ⟨jb, mb, nn, sB, mp, hnn⟩, b8⟩
      rw [ME.out] at mp
      have SB := hid sB
      have MP := hid mp
      have HNN := hid hnn
      have B8 := hid b8
      have GW := hid (get_walk sB mp a n c key (HK.out.below b8) H8.out)
      rw [show lastM key rv false key = some rv by simp [lastM]] at GW
      clear sB mp hnn b8 PU
      go_wp2_with (fail)
      refine GW.out.mono ?_
      rintro e w9 ⟨v9', rfl, o9, b9⟩
      have SB9 := hid (SB.out.below b9)
      have MP9 := hid (MP.out.below b9)
      have B9 := hid (B8.out.trans (b9.mono B8.out.size))
      obtain ⟨vn, hvn⟩ : ∃ vn, vn = rv.length := ⟨_, rfl⟩
      have o9' : w9.ownsRow w8.heap.size 5 1 v9' vn (nums .u8 rv) := by rw [hvn]; exact o9
      obtain ⟨a9, c9, rfl, _⟩ := Rd.of_owns o9'
      have SW := hid (same_walk a9 ra vn c9 vn rc rv rv GR.out.2.1 GR.out.2.1 w9 (sl_of_own o9') (by rw [hvn]; exact GR.out.1.below B9.out))
      rw [decide_eq_true (rfl : rv = rv)] at SW
      rw [← hvn] at d0 ⊢
      clear o9 o9' b9 GW hvn
      go_wp2_with (fail)
      refine SW.out.mono ?_
      rintro e w10 ⟨rfl, rfl⟩
      go_wp2_with (fail)
      refine (Keys_walk SB9.out MP9.out (by have := HNN.out; omega) a n c key (HK.out.below B9.out)).mono ?_
      rintro e w11 ⟨v11, ks, vs, rfl, hks, _, o11, _, b11⟩
      have E11 := keys_one hks key KO.out (fun x => by by_cases h : x = key <;> simp [lastM, h]) (by rw [List.isPrefixOf_iff_prefix]; exact List.prefix_refl _)
      subst E11
      obtain ⟨a11, c11, rfl, _⟩ := Rd.of_owns o11
      have B11 := hid (B9.out.trans (b11.mono B9.out.size))
      clear hks o11 b11
      go_wp2_with (fail)
      go_ret
      exact ⟨rfl, B11.out⟩
end Go.Proofs.YtnophelfpoldfaaGreatDoor
