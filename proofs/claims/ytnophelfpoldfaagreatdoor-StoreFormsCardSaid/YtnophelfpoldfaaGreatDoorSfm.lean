/- The law of forms: a store opens what has been written, and what it has is what stands there; else it says so. -/
import Derived.Test.YtnophelfpoldfaaGreatDoorSis
import Derived.Test.YtnophelfpoldfaaGreatDoorSwr
import Derived.Test.YtnophelfpoldfaaGreatDoorJo2
namespace Go.Proofs.YtnophelfpoldfaaGreatDoor
open Go.RowKit

/-- a record's length -/
theorem readC_short {C : List (List Nat)} {half at' : Nat} {ah b h : List Nat} {t : Nat} (hr : readC C half at' ah = some (b, h, t)) : b.length ≤ 64 * (C.length / 2) := by
  have o := readC_out hr
  unfold readC at hr
  split at hr
  · exact absurd hr (by simp)
  · dsimp only at hr
    split at hr
    · exact absurd hr (by simp)
    · split at hr
      · simp only [Option.some.injEq, Prod.mk.injEq] at hr
        have e1 := hr.1
        rw [← e1, List.length_take]
        have := hr.2.2
        omega
      · exact absurd hr (by simp)
theorem chain_bound {C : List (List Nat)} {half : Nat} : ∀ (rs : List (List Nat)) (p : Nat) (ah : List Nat) (p' : Nat) (ck : List Nat), ChainC C half p ah rs p' ck → p ≤ C.length / 2 → p + rs.length ≤ p' ∧ p' ≤ C.length / 2 ∧ ∀ r ∈ rs, r.length ≤ 64 * (C.length / 2)
  | [], p, ah, p', ck, h, hp => by
    obtain ⟨_, rfl, _⟩ := h
    exact ⟨Nat.le_refl _, hp, fun r hr => nomatch hr⟩
  | b :: rs, p, ah, p', ck, h, hp => by
    obtain ⟨g, t, hr, hc⟩ := h
    have o := readC_out hr
    obtain ⟨i1, i2, i3⟩ := chain_bound rs t g p' ck hc o.2.2.2
    refine ⟨by rw [List.length_cons]; omega, i2, fun r hm => ?_⟩
    rcases List.mem_cons.1 hm with rfl | hm
    · exact readC_short hr
    · exact i3 r hm
/-- a disk of which both halves have a first record -/
def TwoC (C : List (List Nat)) (s : List Nat) (p : Nat) : Prop :=
  C.length = 60 ∧ (∃ g0, readC C 0 0 z32 = some (be8 1 ++ [], g0, 1)) ∧ ∃ h0 t1, t1 ≤ p ∧ readC C 1 0 z32 = some (be8 2 ++ s, h0, t1)
def fmC1 : List (List Nat) := layB (List.replicate 60 z64) 0 (recB z32 (be8 1)) 1
theorem fmC1_len : fmC1.length = 60 := by unfold fmC1; rw [layB_len, List.length_replicate]
theorem fmC1_read : ∃ g0, readC fmC1 0 0 z32 = some (be8 1 ++ [], g0, 1) := by
  have := readC_lay (C := List.replicate 60 z64) (half := 0) (at' := 0) (ah := z32) (b := be8 1) (K := 1) (by rw [be8_len]) (by decide) (by rw [List.length_replicate]; decide) (by rw [be8_len]; decide)
  rw [Nat.zero_mul, Nat.zero_add, Nat.zero_add] at this
  rw [List.append_nil]
  exact ⟨_, this⟩
theorem twoC_lay {s : List Nat} {m : Nat} (hm : m = (107 + s.length) / 64) (hs : s.length ≤ 300) : TwoC (layB fmC1 ((1 - 0) * (fmC1.length / 2) + 0) (recB z32 (be8 (1 + 1) ++ s)) m) s m := by
  have l := fmC1_len
  have bl : (be8 2 ++ s).length = 8 + s.length := by rw [List.length_append, be8_len]
  refine ⟨by rw [layB_len, l], ?_, ?_⟩
  · obtain ⟨g0, h⟩ := fmC1_read
    refine ⟨g0, readC_keep h (by decide) (layB_len _ _ _ _) (fun i _ hi => ?_)⟩
    exact layB_out (by rw [l]; omega) (.inl (by rw [l]; omega))
  · refine ⟨recH z32 (be8 2 ++ s), m, Nat.le_refl _, ?_⟩
    have := readC_lay (C := fmC1) (half := 1) (at' := 0) (ah := z32) (b := be8 2 ++ s) (K := m) (by rw [bl, hm]; congr 1; omega) (by decide) (by rw [l]; omega) (by rw [bl]; omega)
    rw [Nat.zero_add] at this
    exact this
theorem twoC_app {C : List (List Nat)} {s : List Nat} {p m : Nat} {b : List Nat} (h : TwoC C s p) (hp : p + m ≤ 30) : TwoC (layB C (1 * (C.length / 2) + p) b m) s p := by
  obtain ⟨l, ⟨g0, h0⟩, g1, t1, ht, h1⟩ := h
  refine ⟨by rw [layB_len, l], ⟨g0, readC_keep h0 (by decide) (layB_len _ _ _ _) (fun i _ hi => ?_)⟩, g1, t1, ht, readC_keep h1 (by decide) (layB_len _ _ _ _) (fun i _ hi => ?_)⟩
  · exact layB_out (by rw [l]; omega) (.inl (by rw [l]; omega))
  · exact layB_out (by rw [l]; omega) (.inl (by rw [l]; omega))
/-- the disk with an open journal: nothing laid yet -/
def Fm1 (w : World) (db jb : Nat) (w3 : World) : Prop :=
  ∃ B sd, JourAt w3 jb db B 0 1 1 (recH z32 (be8 1)) [] (.slice none 0 0) [] ∧ DiskAt w3 db (db + 1) sd (.slice none 0 0) fmC1 [] ∧ Sep db sd B ∧ w.heap.size ≤ db ∧ (∀ g, sd.ownBlock = some g → w.heap.size ≤ g) ∧ Below w.heap.size w w3
/-- a state laid -/
def Fm2 (w : World) (db jb : Nat) (s : List Nat) (w4 : World) : Prop :=
  ∃ B sd C p h1, JourAt w4 jb db B 1 p 2 h1 s (.slice none 0 0) [] ∧ DiskAt w4 db (db + 1) sd (.slice none 0 0) C [] ∧ TwoC C s p ∧ p ≤ 6 ∧ Sep db sd B ∧ w.heap.size ≤ db ∧ (∀ g, sd.ownBlock = some g → w.heap.size ≤ g) ∧ Below w.heap.size w w4
/-- the disk alone -/
def FmD (w : World) (db : Nat) (s : List Nat) (wx : World) : Prop :=
  ∃ sd C p, DiskAt wx db (db + 1) sd (.slice none 0 0) C [] ∧ TwoC C s p ∧ Below w.heap.size w wx
theorem Fm2.disk {w w4 : World} {db jb : Nat} {s : List Nat} (h : Fm2 w db jb s w4) : FmD w db s w4 := by
  obtain ⟨B, sd, C, p, h1, j, d, t, _, _, _, _, b⟩ := h
  exact ⟨sd, C, p, d, t, b⟩
theorem fm_open {w w1 w2 : World} (h : NewR w1 60 w2) (b0 : Below w.heap.size w w1) (ht : Tabs w) :
    Calls Tryz.prog 8 #[.pointer (some ⟨w1.heap.size, 0, none⟩)] w2 fun e w3 => ∃ jb, e = .returned (.tuple #[.pointer (some ⟨jb, 0, none⟩), .int .i64 0]) ∧ Fm1 w w1.heap.size jb w3 := by
  obtain ⟨sd, d1, b1⟩ := h
  have b2 := b0.trans (b1.mono b0.size)
  have sdl : ∀ g, sd.ownBlock = some g → w1.heap.size < g ∧ g < w2.heap.size := fun g e => by obtain ⟨vs', o', _⟩ := d1.sure; exact o'.lt _ e
  refine (jopen_new d1 (ht.below b2) (fun half hh b h t hr => fresh_no 60 half hh b h t hr)).mono ?_
  rintro e w3 h
  unfold OpenN at h
  rw [if_pos (by rw [List.length_replicate]; decide)] at h
  obtain ⟨jb, rfl, j, d, k⟩ := h
  refine ⟨jb, rfl, w2.heap.size, sd, j, d, ⟨Nat.lt_of_lt_of_le d1.lt.1 d1.lt.2, fun g e => (sdl g e).2⟩, b0.size, fun g e => Nat.le_trans b0.size (Nat.le_of_lt (sdl g e).1), b2.trans (k.below (fun i e => ?_) b2.size)⟩
  rcases e with rfl | e
  · exact b0.size
  · exact Nat.le_trans b0.size (Nat.le_of_lt (sdl i e).1)
theorem fm_lay {w w3 : World} {db jb : Nat} (F : Fm1 w db jb w3) (ht : Tabs w) (a : Option Addr) (n c : Nat) (s : List Nat) (hs : Sl .u8 w a n c s) (hb8 : ∀ d ∈ s, d < 256) (hn : n ≤ 300) :
    Calls Tryz.prog 9 #[.pointer (some ⟨jb, 0, none⟩), .slice a n c] w3 fun e w4 => e = .returned (.int .i64 0) ∧ Fm2 w db jb s w4 := by
  obtain ⟨B, sd, j, d, sep, l1, l2, b3⟩ := F
  have hjb : w.heap.size ≤ jb := by have := j.lo; have := sep.1; omega
  have hl : s.length = n := hs.len
  have low : ∀ i, (i = db ∨ sd.ownBlock = some i ∨ i = jb) → w.heap.size ≤ i := fun i e => by
    rcases e with rfl | e | rfl
    · exact l1
    · exact l2 i e
    · exact hjb
  refine (jput_walk j d (by decide) (by decide) sep (ht.below b3) a n c s (fun w' k => hs.below (b3.trans (k.below low b3.size))) hb8 (by omega) _ rfl).mono ?_
  rintro e w4 h
  unfold LayRes at h
  rw [if_pos ⟨by rw [fmC1_len]; omega, by decide⟩] at h
  obtain ⟨rfl, L⟩ := h
  exact ⟨rfl, B, sd, _, _, _, L.ex, L.dsk, twoC_lay rfl (by omega), by omega, sep, l1, l2, b3.trans (L.keep.below low b3.size)⟩
theorem fm_app {w w4 : World} {db jb : Nat} {s : List Nat} (F : Fm2 w db jb s w4) (ht : Tabs w) (a : Option Addr) (n c : Nat) (b : List Nat) (hs : Sl .u8 w a n c b) (hb8 : ∀ d ∈ b, d < 256) (hn : n ≤ 300) :
    Calls Tryz.prog 10 #[.pointer (some ⟨jb, 0, none⟩), .slice a n c] w4 fun e w5 => e = .returned (.int .i64 0) ∧ FmD w db s w5 := by
  obtain ⟨B, sd, C, p, h1, j, d, t, hp, sep, l1, l2, b4⟩ := F
  have hjb : w.heap.size ≤ jb := by have := j.lo; have := sep.1; omega
  have hl : b.length = n := hs.len
  have low : ∀ i, (i = db ∨ sd.ownBlock = some i) → w.heap.size ≤ i := fun i e => by
    rcases e with rfl | e
    · exact l1
    · exact l2 i e
  refine (japp_walk j d (by decide) (by omega) sep (ht.below b4) (by decide) a n c b (fun w' k => hs.below (b4.trans (k.below low b4.size))) hb8 (by omega) _ rfl).mono ?_
  rintro e w5 h
  unfold AppRes at h
  rw [if_pos (by rw [t.1]; omega)] at h
  obtain ⟨rfl, L⟩ := h
  refine ⟨rfl, sd, _, p, L.dsk, twoC_app t (by omega), b4.trans (L.keep.below (fun i e => ?_) b4.size)⟩
  rcases e with rfl | e | rfl | e
  · exact l1
  · exact l2 i e
  · exact hjb
  · exact nomatch e
/-- both read the same: what the law's reading and the store's are given -/
theorem fm_both {w wx : World} {db : Nat} {s : List Nat} (F : FmD w db s wx) (ht : Tabs w) (hs : s.length ≤ 300) :
    ∃ rs : List (List Nat), rs.length ≤ 30 ∧ Calls Tryz.prog 11 #[.pointer (some ⟨db, 0, none⟩)] wx (WrR wx (fun _ => False) (s :: rs)) ∧
      ∀ wy, Below wx.heap.size wx wy → Calls Tryz.prog 12 #[.pointer (some ⟨db, 0, none⟩)] wy fun e w' => ∃ sd N next, SOp wy (fun _ => False) db sd N next (s :: rs) e w' := by
  obtain ⟨sd, C, p, d, ⟨l, ⟨g0, hr0⟩, h0, t1, _, hr⟩, b⟩ := F
  have o0 := readC_out hr0
  have o1 := readC_out hr
  obtain ⟨rs0, p0, ck0, hch0⟩ := chain_ex C 0 _ 1 g0 (Nat.le_refl _)
  obtain ⟨rs, nx, ck, hch⟩ := chain_ex C 1 _ t1 h0 (Nat.le_refl _)
  obtain ⟨k1, k2, k3⟩ := chain_bound rs t1 h0 nx ck hch o1.2.2.2
  have JO : ∀ wy, Below wx.heap.size wx wy → Calls Tryz.prog 8 #[.pointer (some ⟨db, 0, none⟩)] wy (JOk wy (fun _ => False) db (db + 1) sd C 1 nx 2 ck s rs) := fun wy bx => by
    refine (jopen_two (d.below bx) ((ht.below b).below bx) 1 2 (by decide) (by decide) (by decide) [] g0 1 hr0 rs0 p0 ck0 hch0 s h0 t1 hr rs nx ck hch).mono ?_
    rintro e w' ⟨jb, rv, rfl, j, b'⟩
    exact ⟨jb, rv, rfl, j, (d.below bx).below b', Keep.of b'⟩
  have hlt : ∀ wy, Below wx.heap.size wx wy → db < wy.heap.size ∧ ∀ g, sd.ownBlock = some g → g < wy.heap.size := fun wy bx => by
    have s1 := bx.size
    refine ⟨Nat.lt_of_lt_of_le d.lt.1 (Nat.le_trans d.lt.2 s1), fun g e => ?_⟩
    obtain ⟨vs', o', _⟩ := d.sure
    exact Nat.lt_of_lt_of_le (o'.lt _ e).2 s1
  have hl : ∀ r ∈ rs, r.length ≤ 1000000 := fun r hr => by have := k3 r hr; omega
  refine ⟨rs, by omega, written_walk (JO wx (Below.refl _ _)) (hlt wx (Below.refl _ _)) (by decide) (by omega) (by omega) k2 hl, fun wy bx => ?_⟩
  refine (sopen_walk (JO wy bx) (hlt wy bx) (by decide) (by omega) (by omega) k2 hl).mono ?_
  rintro e w' h
  exact ⟨sd, _, _, h⟩
theorem keep_below {w w' : World} (k : Keep (fun _ => False) w w') : Below w.heap.size w w' := k.below (fun _ h => h.elim) (Nat.le_refl _)
set_option maxRecDepth 100000 in
set_option maxHeartbeats 8000000 in
theorem sforms_walk (a : Option Addr) (n c : Nat) (s : List Nat) (a' : Option Addr) (L c' : Nat) (r : List Nat) (more : Bool) (hs8 : ∀ d ∈ s, d < 256) (hr8 : ∀ d ∈ r, d < 256) (w : World) (hs : Sl .u8 w a n c s) (hr : Sl .u8 w a' L c' r) (ht : Tabs w) :
    Calls Tryz.prog 3 #[.slice a n c, .slice a' L c', .bool more] w fun e w' => e = .returned (.bool true) ∧ Below w.heap.size w w' := by
  have HT := hid ht
  have HS := hid hs
  have HR := hid hr
  have S8 := hid hs8
  have R8 := hid hr8
  have SN := hid hs.len
  clear ht hs hr hs8 hr8
  go_enter Tryz.func3, Tryz.ntmps3
  go_wp2_with (fail)
  refine (shead_walk w HT.out).mono ?_
  rintro e w1 ⟨rfl, b1⟩
  have B1 := hid b1
  clear b1
  by_cases h1 : 300 < n
  case pos =>
    have p1 : decide (300 < n) = true := decide_eq_true h1
    have p1' : decide ((300 : Int) < (n : Int)) = true := decide_eq_true (by omega)
    clear h1
    go_wp2_with (fail)
    go_ret
    exact ⟨rfl, B1.out⟩
  have p1 : decide (300 < n) = false := decide_eq_false h1
  have p1' : decide ((300 : Int) < (n : Int)) = false := decide_eq_false (by omega)
  by_cases h2 : 300 < L
  case pos =>
    have p2 : decide (300 < L) = true := decide_eq_true h2
    have p2' : decide ((300 : Int) < (L : Int)) = true := decide_eq_true (by omega)
    clear h1 h2
    go_wp2_with (fail)
    go_ret
    exact ⟨rfl, B1.out⟩
  have p2 : decide (300 < L) = false := decide_eq_false h2
  have p2' : decide ((300 : Int) < (L : Int)) = false := decide_eq_false (by omega)
  have NL := hid (show n ≤ 300 ∧ L ≤ 300 by omega)
  clear h1 h2
  go_wp2_with (fail)
  refine (dnew_walk 60 rfl w1).mono ?_
  rintro e w2 ⟨rfl, d2⟩
  have D2 := hid (show NewR w1 60 w2 from d2)
  clear d2
  go_wp2_with (fail)
  refine (fm_open D2.out B1.out HT.out).mono ?_
  rintro e w3 ⟨jb, rfl, f3⟩
  obtain ⟨db, hdb⟩ : ∃ db, db = w1.heap.size := ⟨_, rfl⟩
  rw [← hdb] at f3
  have F3 := hid f3
  have HDB := hid hdb
  simp only [← hdb]
  clear f3 p1 p1' p2 p2' hdb D2
  go_wp2_with (fail)
  refine (fm_lay F3.out HT.out a n c s HS.out S8.out NL.out.1).mono ?_
  rintro e w4 ⟨rfl, f4⟩
  have F4 := hid f4
  clear f4
  cases more
  · obtain ⟨wx, hwx⟩ : ∃ wx, wx = w4 := ⟨_, rfl⟩
    subst hwx
    have FX := hid F4.out.disk
    obtain ⟨rs, hrs, WW, OO⟩ := fm_both FX.out HT.out (by have := SN.out; have := NL.out.1; omega)
    have OH := hid OO
    have RL := hid hrs
    have BX := hid (show Below w.heap.size w wx by obtain ⟨_, _, _, _, _, b⟩ := FX.out; exact b)
    clear OO hrs
    go_wp2_with (fail)
    refine WW.mono ?_
    rintro e w6 h6
    clear WW
    unfold WrR at h6
    obtain ⟨k6, h6⟩ := h6
    have B6 := hid (keep_below k6)
    clear k6
    rcases open_writ (s :: rs) [] (fun _ => none) IsP.nil with ⟨ho, hw⟩ | ⟨M, ps, ho, hw, ip⟩
    · rw [hw] at h6
      obtain rfl := h6
      have HO := hid ho
      clear hw ho
      go_wp2_with (fail)
      refine (OH.out w6 B6.out).mono ?_
      rintro e w7 ⟨sd, N, next, h7⟩
      unfold SOp at h7
      rw [HO.out] at h7
      obtain ⟨k7, rfl⟩ := h7
      have B7 := hid (keep_below k7)
      clear k7
      go_wp2_with (fail)
      go_ret
      exact ⟨rfl, BX.out.trans ((B6.out.trans (B7.out.mono B6.out.size)).mono BX.out.size)⟩
    · rw [hw] at h6
      obtain ⟨a6, n6, c6, al, rfl, pr, hpa⟩ := h6
      have HO := hid ho
      have IP := hid ip
      have PR := hid pr
      have PA := hid hpa
      clear hw ho ip pr hpa
      go_wp2_with (fail)
      refine (OH.out w6 B6.out).mono ?_
      rintro e w7 ⟨sd, N, next, h7⟩
      unfold SOp at h7
      rw [HO.out] at h7
      obtain ⟨k7, sb, S7, n7, rfl, sa, hn7, _⟩ := h7
      have B7 := hid (keep_below k7)
      obtain ⟨jb7, mb7, sB, mp⟩ := sa.look
      have SB := hid sB
      have MP := hid mp
      have N7 := hid hn7
      clear k7 sa sB mp hn7
      go_wp2_with (fail)
      refine (is_walk SB.out MP.out (by have h := N7.out; have := RL.out; rw [List.length_cons] at h; omega) a6 n6 c6 al (PR.out.below B7.out) (PA.out ▸ IP.out)).mono ?_
      rintro e w8 ⟨rfl, b8⟩
      have B8 := hid b8
      clear b8
      go_wp2_with (fail)
      go_ret
      exact ⟨rfl, BX.out.trans ((B6.out.trans ((B7.out.trans (B8.out.mono B7.out.size)).mono B6.out.size)).mono BX.out.size)⟩
  · go_wp2_with (fail)
    refine (fm_app F4.out HT.out a' L c' r HR.out R8.out NL.out.2).mono ?_
    rintro e wx ⟨rfl, f5⟩
    have FX := hid f5
    clear f5
    obtain ⟨rs, hrs, WW, OO⟩ := fm_both FX.out HT.out (by have := SN.out; have := NL.out.1; omega)
    have OH := hid OO
    have RL := hid hrs
    have BX := hid (show Below w.heap.size w wx by obtain ⟨_, _, _, _, _, b⟩ := FX.out; exact b)
    clear OO hrs
    go_wp2_with (fail)
    refine WW.mono ?_
    rintro e w6 h6
    clear WW
    unfold WrR at h6
    obtain ⟨k6, h6⟩ := h6
    have B6 := hid (keep_below k6)
    clear k6
    rcases open_writ (s :: rs) [] (fun _ => none) IsP.nil with ⟨ho, hw⟩ | ⟨M, ps, ho, hw, ip⟩
    · rw [hw] at h6
      obtain rfl := h6
      have HO := hid ho
      clear hw ho
      go_wp2_with (fail)
      refine (OH.out w6 B6.out).mono ?_
      rintro e w7 ⟨sd, N, next, h7⟩
      unfold SOp at h7
      rw [HO.out] at h7
      obtain ⟨k7, rfl⟩ := h7
      have B7 := hid (keep_below k7)
      clear k7
      go_wp2_with (fail)
      go_ret
      exact ⟨rfl, BX.out.trans ((B6.out.trans (B7.out.mono B6.out.size)).mono BX.out.size)⟩
    · rw [hw] at h6
      obtain ⟨a6, n6, c6, al, rfl, pr, hpa⟩ := h6
      have HO := hid ho
      have IP := hid ip
      have PR := hid pr
      have PA := hid hpa
      clear hw ho ip pr hpa
      go_wp2_with (fail)
      refine (OH.out w6 B6.out).mono ?_
      rintro e w7 ⟨sd, N, next, h7⟩
      unfold SOp at h7
      rw [HO.out] at h7
      obtain ⟨k7, sb, S7, n7, rfl, sa, hn7, _⟩ := h7
      have B7 := hid (keep_below k7)
      obtain ⟨jb7, mb7, sB, mp⟩ := sa.look
      have SB := hid sB
      have MP := hid mp
      have N7 := hid hn7
      clear k7 sa sB mp hn7
      go_wp2_with (fail)
      refine (is_walk SB.out MP.out (by have h := N7.out; have := RL.out; rw [List.length_cons] at h; omega) a6 n6 c6 al (PR.out.below B7.out) (PA.out ▸ IP.out)).mono ?_
      rintro e w8 ⟨rfl, b8⟩
      have B8 := hid b8
      clear b8
      go_wp2_with (fail)
      go_ret
      exact ⟨rfl, BX.out.trans ((B6.out.trans ((B7.out.trans (B8.out.mono B7.out.size)).mono B6.out.size)).mono BX.out.size)⟩
theorem lawSForms (a : Option Addr) (n c : Nat) (s : List Nat) (a' : Option Addr) (L c' : Nat) (r : List Nat) (more : Bool) (hs8 : ∀ d ∈ s, d < 256) (hr8 : ∀ d ∈ r, d < 256) (_z : n * 1 ≤ 140737488351232) (_z' : L * 1 ≤ 140737488351232) (w : World) (hs : Sl .u8 w a n c s) (hr : Sl .u8 w a' L c' r) (ht : Tabs w) :
    Calls Tryz.prog 3 #[.slice a n c, .slice a' L c', .bool more] w fun e w' => e = .returned (.bool true) ∧ Below w.heap.size w w' :=
  sforms_walk a n c s a' L c' r more hs8 hr8 w hs hr ht
end Go.Proofs.YtnophelfpoldfaaGreatDoor
