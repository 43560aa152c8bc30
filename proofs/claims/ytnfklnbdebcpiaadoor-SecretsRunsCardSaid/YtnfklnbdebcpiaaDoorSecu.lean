/- What is kept of any secrets that were put, plain; the walks of noughts and of a nil chain's methods. -/
import Derived.Test.YtnfklnbdebcpiaaDoorSecs
namespace Go.Proofs.YtnfklnbdebcpiaaDoor
open Go.RowKit

/-- what is kept of the first n of these -/
def KPf (PS : List (List Nat)) : Nat → KM
  | 0 => noneK
  | n + 1 => updK (KPf PS n) (nz (281474976710655 - n)) (281474976710655 - n, PS.getD n [])
theorem kpf_more (PS : List (List Nat)) (s : List Nat) : ∀ n, n ≤ PS.length → KPf (PS ++ [s]) n = KPf PS n
  | 0, _ => rfl
  | n + 1, h => by
    rw [KPf, KPf, kpf_more PS s n (by omega)]
    congr 2
    rw [List.getD_eq_getElem?_getD, List.getD_eq_getElem?_getD, List.getElem?_append_left (by omega)]
theorem kpf_snoc (PS : List (List Nat)) (s : List Nat) : KPf (PS ++ [s]) (PS.length + 1) = updK (KPf PS PS.length) (nz (281474976710655 - PS.length)) (281474976710655 - PS.length, s) := by
  rw [KPf, kpf_more PS s _ (Nat.le_refl _)]
  congr 2
  rw [List.getD_eq_getElem?_getD, List.getElem?_append_right (Nat.le_refl _), Nat.sub_self]; rfl
theorem kpf_last (PS : List (List Nat)) : ∀ (n k i : Nat), k < n → nz (281474976710655 - k) = i → (∀ j, k < j → j < n → nz (281474976710655 - j) ≠ i) → KPf PS n i = (281474976710655 - k, PS.getD k [])
  | 0, _, _, h, _, _ => by omega
  | n + 1, k, i, h, hk, hno => by
    rw [KPf]; unfold updK
    by_cases hi : i = nz (281474976710655 - n)
    · rw [if_pos hi]
      have : ¬ k < n := fun hlt => hno n hlt (by omega) hi.symm
      have e : n = k := by omega
      rw [e]
    · rw [if_neg hi]
      have hne : k ≠ n := fun e => hi (by rw [← e]; exact hk.symm)
      exact kpf_last PS n k i (by omega) hk (fun j h1 h2 => hno j h1 (by omega))
theorem kpf_none (PS : List (List Nat)) : ∀ (n i : Nat), (∀ j, j < n → nz (281474976710655 - j) ≠ i) → KPf PS n i = noneK i
  | 0, _, _ => rfl
  | n + 1, i, h => by
    rw [KPf]; unfold updK
    rw [if_neg (fun e => h n (by omega) e.symm)]
    exact kpf_none PS n i (fun j hj => h j (by omega))
/-- a place that ends in m noughts: for each fewer there was one ahead -/
theorem nz_ahead {n i : Nat} (hn : n < 281474976710656) (hi : i < nz (281474976710655 - n)) : ∃ k, k < n ∧ nz (281474976710655 - k) = i := by
  obtain ⟨p, hp⟩ : ∃ p, p = 281474976710655 - n := ⟨_, rfl⟩
  rw [← hp] at hi
  have hm := nz_le p
  obtain ⟨c, hc⟩ := nzF_dvd 48 p
  obtain ⟨m, hmm⟩ : ∃ m, m = nz p := ⟨_, rfl⟩
  have hc' : p = c * 2 ^ m := by rw [hmm]; unfold nz; rw [Nat.mul_comm]; exact hc
  rw [← hmm] at hi hm
  obtain ⟨d, rfl⟩ : ∃ d, m = i + (d + 1) := ⟨m - i - 1, by omega⟩
  have e2 : c * 2 ^ (i + (d + 1)) = 2 ^ i * (2 * (c * 2 ^ d)) := by
    rw [Nat.pow_add, Nat.pow_succ]
    ac_rfl
  have hpos : 0 < 2 ^ i := Nat.two_pow_pos i
  have eq : p + 2 ^ i = 2 ^ i * (2 * (c * 2 ^ d) + 1) := by rw [hc', e2, Nat.mul_add, Nat.mul_one]
  have hpow : 2 ^ i < 2 ^ (i + (d + 1)) := Nat.pow_lt_pow_right (by omega) (by omega)
  have h48 : 2 ^ (i + (d + 1)) ∣ 281474976710656 := by
    have : (281474976710656 : Nat) = 2 ^ 48 := by decide
    rw [this]; exact Nat.pow_dvd_pow 2 hm
  have hq : p + 2 ^ i ≤ 281474976710655 := by
    obtain ⟨x, hx⟩ := h48
    have hcx : c < x := by
      apply Nat.lt_of_mul_lt_mul_right (a := 2 ^ (i + (d + 1)))
      rw [← hc', Nat.mul_comm x, ← hx]; omega
    have : (c + 1) * 2 ^ (i + (d + 1)) ≤ x * 2 ^ (i + (d + 1)) := Nat.mul_le_mul_right _ hcx
    rw [Nat.add_mul, Nat.one_mul, ← hc', Nat.mul_comm x, ← hx] at this
    omega
  have hnz : nz (p + 2 ^ i) = i := by unfold nz; rw [eq]; exact nzF_mul 48 i _ (by omega)
  refine ⟨n - 2 ^ i, by omega, ?_⟩
  rw [show 281474976710655 - (n - 2 ^ i) = p + 2 ^ i by omega]
  exact hnz
def NumRes (v : Value) (w : World) (e : Ending) (w' : World) : Prop := e = .returned v ∧ w' = w
set_option maxRecDepth 100000 in
set_option maxHeartbeats 4000000 in
theorem noughts_walk (p : Nat) (hp : p < 18446744073709551616) (w : World) :
    Calls Tryd.prog 12 #[.int .u64 (p : Int)] w (NumRes (.int .i64 (nz p : Int)) w) := by
  go_enter Tryd.func12, Tryd.ntmps12
  go_wp2
  go_loop [0, 3] (fun x0 x3 => ∃ (n y : Nat), n ≤ 48 ∧ x3 = .int .i64 n ∧ x0 = .int .u64 (y : Int) ∧ Hid (nz p = n + nzF (48 - n) y) ∧ y < 18446744073709551616) (fun _ x3 => 48 - (intOf x3).toNat)
  case atStart => exact ⟨0, p, by omega, rfl, rfl, hid (by simp [nz]), hp⟩
  case round =>
    obtain ⟨n, y, hn, rfl, rfl, hnz, hy⟩ := hrel
    by_cases h48 : n < 48
    · have e48 : 48 - n = 48 - (n + 1) + 1 := by omega
      have h1 := hnz.out
      rw [e48, nzF] at h1
      by_cases hodd : y % 2 = 1
      · rw [if_pos hodd] at h1
        have H1 := hid h1
        have t1 : ((y : Int) % 2 == 0) = false := by rw [beq_eq_false_iff_ne]; omega
        clear h1 e48 hodd
        go_wp2
        go_ret
        exact ⟨by rw [H1.out]; rfl, rfl⟩
      · rw [if_neg hodd] at h1
        obtain ⟨z, hz⟩ : ∃ z, z = y / 2 := ⟨_, rfl⟩
        rw [← hz] at h1
        have ez : (y : Int) / 2 = (z : Int) := by omega
        have hz64 : z < 18446744073709551616 := by omega
        have H1 := hid (show nz p = n + 1 + nzF (48 - (n + 1)) z by omega)
        have t1 : ((y : Int) % 2 == 0) = true := by rw [beq_iff_eq]; omega
        clear h1 e48 hodd hz
        go_wp2
        go_round
        case rel => exact ⟨n + 1, z, by omega, by go_num, rfl, H1, hz64⟩
        case measure => simp [intOf]; omega
    · obtain rfl : n = 48 := by omega
      have H1 := hid (show nz p = 48 by have := hnz.out; simpa [nzF] using this)
      clear h48 hn
      go_wp2
      go_ret
      exact ⟨by rw [H1.out]; rfl, rfl⟩
set_option maxRecDepth 100000 in
set_option maxHeartbeats 4000000 in
theorem get_nil (w : World) :
    Calls Tryd.prog 15 #[.pointer none, .int .u64 0] w fun e w' => e = .returned (.tuple #[hv zero32, .bool false]) ∧ Below w.heap.size w w' := by
  have A1 := fun z => And.intro (heap_alloc_new w (.cells z 23)) ((Below.refl w.heap.size w).alloc (Nat.le_refl _) (.cells z 23))
  go_enter Tryd.func15, Tryd.ntmps15
  go_upto_region 1 with (fail)
  generalize hW : World.alloc w _ = w1
  replace A1 : ∃ z : Array Value, z.size = 32 ∧ w1.heap[w.heap.size]? = some (.cells z 23 (0, 0)) ∧ Below w.heap.size w w1 := ⟨_, by rfl, hW ▸ (A1 _).1, hW ▸ (A1 _).2⟩
  obtain ⟨z, hz, gZ, b0⟩ := A1
  have HZ := hid gZ
  have B0 := hid b0
  have hsz := hid (show z.size = (nums .u8 zero32).toArray.size by rw [hz]; rfl)
  clear hW gZ b0 hz
  go_wp2_with (refine wpList_store_row rfl _ _ _ rfl w.heap.size (nums .u8 zero32).toArray rfl rfl _ _ HZ.out infoHaZ hsz.out oneZ ?_)
  refine bodyPost_ret (results_cell_tmp rfl _ _ w.heap.size _ (nums .u8 zero32).toArray _ _ _ rfl rfl (setRow_heap w1 w.heap.size _ _ _ _ HZ.out) Tryd.underlying23 rfl infoHaZ) rfl ?_
  exact ⟨rfl, below_setRow B0.out (Nat.le_refl _) _⟩
set_option maxRecDepth 100000 in
set_option maxHeartbeats 4000000 in
theorem put_nil (s : List Nat) (w : World) :
    Calls Tryd.prog 13 #[.pointer none, hv s] w fun e w' => e = .returned (.int .i64 1) ∧ Below w.heap.size w w' := by
  have b0 := (Below.refl w.heap.size w).alloc (Nat.le_refl _) (.cells (nums .u8 s).toArray 23)
  unfold hv
  go_enter Tryd.func13, Tryd.ntmps13
  go_upto_region 1 with (fail)
  generalize World.alloc w _ = w1 at *
  go_wp2
  go_ret
  exact ⟨rfl, b0⟩
theorem count_nil (w : World) :
    Calls Tryd.prog 14 #[.pointer none] w (NumRes (.int .u64 0) w) := by
  go_enter Tryd.func14, Tryd.ntmps14
  go_wp2
  go_ret
  exact ⟨rfl, rfl⟩
theorem encode_nil (w : World) :
    Calls Tryd.prog 16 #[.pointer none] w (NumRes (.slice none 0 0) w) := by
  go_enter Tryd.func16, Tryd.ntmps16
  go_wp2
  go_ret
  exact ⟨rfl, rfl⟩
end Go.Proofs.YtnfklnbdebcpiaaDoor
