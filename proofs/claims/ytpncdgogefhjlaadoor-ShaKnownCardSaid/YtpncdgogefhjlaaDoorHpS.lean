/- Small facts for the pieces of the reference's Hash. -/
import Derived.Test.YtpncdgogefhjlaaDoorCatS
import Derived.Test.YtpncdgogefhjlaaDoorShaH
import Derived.Maps.AppendAt
import Derived.Laws.NewBlocks
namespace Go.Proofs.YtpncdgogefhjlaaDoor
open Go.RowKit

theorem tyU32s : SliceTy Tryd.prog 83 28 1 4 (.int .u32 0) := .mk' Tryd.underlying83 (by kernel_rfl) rfl (by decide)
theorem own_low {w w' : World} {B B' : Nat} {e : TypeId} {size : Nat} {v : Value} {n : Nat} {xs : List Value} (h : w.ownsRow B e size v n xs) (hb : Below B' w w') (hk : ∀ k, v.ownBlock = some k → k < B') : w'.ownsRow B e size v n xs := by
  refine ⟨h.1, ?_⟩
  rcases h.2 with hn | ⟨g, cap, cur, rfl, hb0, hg, rest⟩
  · exact .inl hn
  · exact .inr ⟨g, cap, cur, rfl, hb0, by rw [hb.block g (hk g rfl)]; exact hg, rest⟩
theorem cell_keep' {w w' : World} {a : Addr} {v : Value} (h : w.cell? a = some v) (b : Below w.heap.size w w') : w'.cell? a = some v := by
  rw [b.cell (World.block_lt_of_cell? w _ h)]; exact h
theorem cell_grown {w w' : World} {a : Addr} {v : Value} {row : Option Nat} (h : w.cell? a = some v) (hg : w.grownBy w' row) (hne : some a.block ≠ row) : w'.cell? a = some v := by
  rw [World.cell?_of_block (hg.block _ (World.block_lt_of_cell? w _ h) hne)]; exact h
/-- one element behind a row of the call's own: what the old block holds stays readable -/
theorem wp_pushS {P : Program} {w : World} {o : Oper} {a : Act} {K : Act → World → Prop} {Q : Exit → Act → World → Prop} (s x : Operand) (t : TypeId)
    (ho : o.op = .call { callee := .builtin .append, args := #[s, x], argTypes := #[t, t] })
    {e : TypeId} {bytes : Nat} {z : Value} (ty : SliceTy P t e 1 bytes z) (B : Nat) {g n cap : Nat} {xs : List Value} (hown : w.ownsRow B e 1 (.slice (some ⟨g, 0, none⟩) n cap) n xs) (hs : a.eval s = .slice (some ⟨g, 0, none⟩) n cap)
    {ad : Addr} {u : Value} (hx : a.eval x = .slice (some ad) 1 1) (hu : w.cell? (ad.add 0) = some u) (h1 : u.oneCell' = true) (hn : n < 4294967296) (hby : bytes ≤ 16384) (hB : B ≤ w.heap.size)
    (h : ∀ v' w', w'.ownsRow B e 1 v' (n + 1) (xs ++ [u]) → w.grownBy w' (some g) → (∀ j y, xs[j]? = some y → w'.cell? ⟨g, j, none⟩ = some y) → K (a.put o.dst v') w') : o.wp P a w K Q := by
  obtain ⟨i, ht, hi, hz, hsz, hb⟩ := ty.ex
  have hl : [u].length = 1 * i.size := by rw [hsz]; rfl
  have hnews : ∀ j y, [u][j]? = some y → w.cell? (ad.add j) = some y := by
    intro j y hj
    match j, hj with
    | 0, hj => simp at hj; subst hj; exact hu
    | j + 1, hj => simp at hj
  have h1' : ∀ y ∈ [u], y.oneCell' = true := by intro y hy; simp only [List.mem_singleton] at hy; subst hy; exact h1
  have hbytes : (n + 1) * bytes ≤ 140737488355328 := by
    have : (n + 1) * bytes ≤ 4294967296 * 16384 := Nat.mul_le_mul (by omega) hby
    omega
  obtain ⟨v', w', hr, h2, h3, h4, h5⟩ := run_append_own_at (P := P) w B t o.type e i z 1 bytes ht hi hz hsz hb ty.zs ty.pos _ n xs hown ad 1 1 [u] rfl hnews h1' (by unfold maxLen; omega) hbytes hB
  have stays : ∀ j y, xs[j]? = some y → w'.cell? ⟨g, j, none⟩ = some y := by
    intro j y hj
    rcases hown.2 with ⟨hv, _⟩ | ⟨g', cap', cur, hv, hbg, hg, hnc, hcm, hcs, htake⟩
    · simp at hv
    · simp only [Value.slice.injEq, Option.some.injEq, Addr.mk.injEq, and_true, true_and] at hv
      obtain ⟨rfl, rfl⟩ := hv
      have hadd : ∀ q, (⟨g, 0, none⟩ : Addr).add q = ⟨g, q, none⟩ := fun q => by unfold Addr.add; split <;> simp_all
      by_cases hroom : n + 1 ≤ cap
      · have hr2 := run_append_room (P := P) w t o.type e i ht hi g n cap cur hg ad 1 1 [u] hl hnews h1' hroom (by rw [hsz, hcs, List.length_singleton]; omega)
        rw [hr] at hr2
        simp only [Result.ok.injEq] at hr2
        obtain ⟨rfl, rfl⟩ := hr2
        have := h2.cells (g := g) rfl j y (by rw [List.getElem?_append_left (List.getElem?_eq_some_iff.1 hj).1]; exact hj)
        rwa [hadd] at this
      · have holds : ∀ j u, xs[j]? = some u → w.cell? ((⟨g, 0, none⟩ : Addr).add j) = some u := hown.cells (g := g) rfl
        have hr2 := run_append_grow (P := P) w t o.type e i z ht hi hz ⟨g, 0, none⟩ n cap xs (by rw [hsz]; exact hown.1) holds ad 1 1 [u] hl hnews (by omega) (by omega) (growslice_fits (by omega) (by rw [hb]; exact hbytes))
        rw [hr] at hr2
        simp only [Result.ok.injEq] at hr2
        obtain ⟨rfl, rfl⟩ := hr2
        have hc := holds j y hj
        rw [hadd] at hc
        have hlt := (Array.getElem?_eq_some_iff.1 hg).1
        rw [World.cell?_alloc_past _ _ _ (show g < w.drew.heap.size from hlt)]
        exact hc
  unfold Oper.wp execOp
  simp only [ho, resolve, invoke, builtin, Sem.run_bind, Sem.run_pure, Result.andThen_ok, List.map_toArray, List.map_cons, List.map_nil, hs, hx, hr]
  exact h v' w' h2 h3 stays
theorem step_pushS {P : Program} {w : World} {ops : Array Oper} {o : Oper} {a : Act} {K : Act → World → Prop} {Q : Exit → Act → World → Prop} {E : Prop} (hgd : o.guard = none) (s x : Operand) (t : TypeId)
    (ho : o.op = .call { callee := .builtin .append, args := #[s, x], argTypes := #[t, t] })
    {e : TypeId} {bytes : Nat} {z : Value} (ty : SliceTy P t e 1 bytes z) (B : Nat) {g n cap : Nat} {xs : List Value} (hown : w.ownsRow B e 1 (.slice (some ⟨g, 0, none⟩) n cap) n xs) (hs : a.eval s = .slice (some ⟨g, 0, none⟩) n cap)
    {ad : Addr} {u : Value} (hx : a.eval x = .slice (some ad) 1 1) (hu : w.cell? (ad.add 0) = some u) (h1 : u.oneCell' = true) (hn : n < 4294967296) (hby : bytes ≤ 16384) (hB : B ≤ w.heap.size)
    (h : ∀ v' w', w'.ownsRow B e 1 v' (n + 1) (xs ++ [u]) → w.grownBy w' (some g) → (∀ j y, xs[j]? = some y → w'.cell? ⟨g, j, none⟩ = some y) → K (a.put o.dst v') w') :
    if Region.wanted o (yielded ops a.tmps) = true then Oper.wp P o a w K Q else E := by
  have hw : Region.wanted o (yielded ops a.tmps) = true := by simp [Region.wanted, hgd]
  rw [if_pos hw]
  exact wp_pushS s x t ho ty B hown hs hx hu h1 hn hby hB h
end Go.Proofs.YtpncdgogefhjlaaDoor
