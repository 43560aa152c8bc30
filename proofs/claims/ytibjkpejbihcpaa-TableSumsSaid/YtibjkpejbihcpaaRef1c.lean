/- The reference's numbers as digits: Add. -/
import Derived.Test.YtibjkpejbihcpaaRef1b
namespace Go.Proofs.Ytibjkpejbihcpaa
open Go.RowKit

set_option maxHeartbeats 1000000 in
theorem add_walk (a a' : Option Addr) (n m cap cap' x y : Nat) (xs ys : List Nat) (hn : n ≤ 1048576) (hm : m ≤ 1048576) (w : World) (h : Sl .i64 w a n cap xs) (hx : Dig xs x) (h' : Sl .i64 w a' m cap' ys) (hy : Dig ys y) :
    Calls Try.prog 14 #[.slice a n cap, .slice a' m cap'] w (ResD w (x + y)) := by
  have gx := hx.2.1
  have gy := hy.2.1
  go_enter Try.func14, Try.ntmps14
  go_wp2
  go_loopw [5, 6, 7] (fun v c0 i0 wr => ∃ (k c : Nat) (os : List Nat), i0 = .int .i64 k ∧ c0 = .int .i64 c ∧ AddSt xs ys os k c ∧ wr.ownsRow w.heap.size 3 1 v os.length (nums .i64 os) ∧ Below w.heap.size w wr) (fun _ _ i0 _ => n + m + 2 - (intOf i0).toNat)
  case atStart => exact ⟨0, 0, [], rfl, rfl, AddSt.nil xs ys, World.ownsRow_made _ _ _ (by simp) (by simp) (by simp), (Below.refl _ _).alloc (by simp) _⟩
  case round =>
    obtain ⟨k, c, os, rfl, rfl, S, hown, hb⟩ := hrel
    have hB := hb.size
    have hol : os.length < 4294967296 := by have := S.1; have := S.2.2.2.2.1; have := h.len; have := h'.len; omega
    have S3 : c ≤ 1 := S.2.2.1
    have S5 := S.2.2.2.2.1
    have hl : xs.length ≤ n := Nat.le_of_eq h.len
    have hl' : ys.length ≤ m := Nat.le_of_eq h'.len
    have hl2 : n ≤ xs.length := Nat.le_of_eq h.len.symm
    have hl2' : m ≤ ys.length := Nat.le_of_eq h'.len.symm
    have hkm : k ≤ 1048577 := by omega
    have hmu : k < n + m + 2 := by omega
    have SS : k < n ∨ k < m ∨ 0 < c → AddSt xs ys (os ++ [(c + xs.getD k 0 + ys.getD k 0) % 256]) (k + 1) ((c + xs.getD k 0 + ys.getD k 0) / 256) := fun hg => S.step gx gy (by omega)
    obtain ⟨b, off, ha, hc⟩ := (h.below hb).opened
    obtain ⟨b', off', ha', hc'⟩ := (h'.below hb).opened
    have hcx := hc k
    have hcy := hc' k
    have dx := getD_lt gx k
    have dy := getD_lt gy k
    have ox : ¬ k < n → xs.getD k 0 = 0 := fun hk => getD_out (by omega)
    have oy : ¬ k < m → ys.getD k 0 = 0 := fun hk => getD_out (by omega)
    generalize xs.getD k 0 = d at *
    generalize ys.getD k 0 = e at *
    have HS := hid SS; clear SS hc hc' gx gy
    by_cases hgo : k < n ∨ k < m ∨ 0 < c
    · have hs := hid (HS.out hgo); clear HS
      by_cases h1 : k < n
      · obtain rfl := ha (by omega)
        have hcx := hcx h1
        clear ha ox
        by_cases h2 : k < m
        · obtain rfl := ha' (by omega)
          have hcy := hcy h2
          clear ha' oy
          go_wp2_with (at_builtin; refine wpList_push rfl _ _ 36 rfl tyD w.heap.size hown rfl rfl rfl rfl hol (by decide) hB ?_)
          intro v' w1 hown' hb' _ _
          go_wp2
          go_roundw
          case rel => exact ⟨k + 1, (c + d + e) / 256, os ++ [(c + d + e) % 256], by go_num, by go_num, hs.out, own_snoc hown' (by omega), hb.trans hb'⟩
          case measure => simp [intOf]; omega
        · obtain rfl := oy h2
          clear hcy
          go_wp2_with (at_builtin; refine wpList_push rfl _ _ 36 rfl tyD w.heap.size hown rfl rfl rfl rfl hol (by decide) hB ?_)
          intro v' w1 hown' hb' _ _
          go_wp2
          go_roundw
          case rel => exact ⟨k + 1, (c + d + 0) / 256, os ++ [(c + d + 0) % 256], by go_num, by go_num, hs.out, own_snoc hown' (by omega), hb.trans hb'⟩
          case measure => simp [intOf]; omega
      · obtain rfl := ox h1
        clear hcx
        by_cases h2 : k < m
        · obtain rfl := ha' (by omega)
          have hcy := hcy h2
          clear ha' oy
          go_wp2_with (at_builtin; refine wpList_push rfl _ _ 36 rfl tyD w.heap.size hown rfl rfl rfl rfl hol (by decide) hB ?_)
          intro v' w1 hown' hb' _ _
          go_wp2
          go_roundw
          case rel => exact ⟨k + 1, (c + 0 + e) / 256, os ++ [(c + 0 + e) % 256], by go_num, by go_num, hs.out, own_snoc hown' (by omega), hb.trans hb'⟩
          case measure => simp [intOf]; omega
        · obtain rfl := oy h2
          clear hcy
          have h3 : 0 < c := by omega
          go_wp2_with (at_builtin; refine wpList_push rfl _ _ 36 rfl tyD w.heap.size hown rfl rfl rfl rfl hol (by decide) hB ?_)
          intro v' w1 hown' hb' _ _
          go_wp2
          go_roundw
          case rel => exact ⟨k + 1, (c + 0 + 0) / 256, os ++ [(c + 0 + 0) % 256], by go_num, by go_num, hs.out, own_snoc hown' (by omega), hb.trans hb'⟩
          case measure => simp [intOf]; omega
    · obtain rfl : c = 0 := by omega
      clear hcx hcy HS
      have fin := hid (S.fin (by omega) (by omega))
      have hv := SlV.of_owns hown
      have ho := S.2.1
      have hbs := hb.size
      obtain ⟨a1, cap1, rfl, h3⟩ := hv
      go_wp2_with fail
      refine (trim_walk a1 _ cap1 os _ h3 ho).mono ?_
      rintro e w' ⟨⟨v, ys', rfl, hd, hsl⟩, rfl⟩
      rw [fin.out, hx.1, hy.1] at hd
      go_wp2
      go_ret
      exact ⟨_, ys', rfl, hd, hsl, hb⟩
end Go.Proofs.Ytibjkpejbihcpaa
