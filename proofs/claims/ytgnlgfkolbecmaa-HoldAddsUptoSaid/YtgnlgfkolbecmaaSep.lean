/- TREES WHOSE ROWS LIE APART: intervals of block numbers, one within the other. -/
import Derived.Test.YtgnlgfkolbecmaaOwn
namespace Go.Proofs.Ytgnlgfkolbecmaa
open Go Go.RowKit

/-- the block of a row that is not empty -/
def BlkIn (lo hi : Nat) (a : Option Addr) (n : Nat) : Prop := ∀ b o, a = some ⟨b, o, none⟩ → 0 < n → lo ≤ b ∧ b < hi
theorem BlkIn.mono {lo hi lo' hi' : Nat} {a : Option Addr} {n : Nat} (h : BlkIn lo hi a n) (h1 : lo' ≤ lo) (h2 : hi ≤ hi') : BlkIn lo' hi' a n := fun b o e hn => by
  have := h b o e hn; omega
theorem RowIn.blk {w : World} {lo hi : Nat} {a : Option Addr} {n c k : Nat} {f : Nat → Nat → Value} (h : RowIn w lo hi a n c k f) : BlkIn lo hi a n := fun b o e hn => by
  obtain ⟨b', o', e', h1, h2, _⟩ := h.2 hn
  rw [e] at e'
  injection e' with e'; injection e' with e1 e2
  subst e1
  exact ⟨h1, h2⟩
theorem RowIn.narrow {w : World} {lo hi l h : Nat} {a : Option Addr} {n c k : Nat} {f : Nat → Nat → Value} (hr : RowIn w lo hi a n c k f) (hb : BlkIn l h a n) : RowIn w l h a n c k f := by
  refine ⟨hr.1, fun hn => ?_⟩
  obtain ⟨b, o, e, _, _, hc⟩ := hr.2 hn
  have := hb b o e hn
  exact ⟨b, o, e, this.1, this.2, hc⟩
/-- a tree's own rows, and its Kids', in intervals that lie apart -/
inductive NT.Sep : Nat → Nat → NT → Prop
  | mk (n : NT) (lo a m hi : Nat) (f : Nat → Nat) (h1 : lo ≤ a) (h2 : a ≤ m) (hp : BlkIn lo a n.pa n.ps.length) (ht : BlkIn lo a n.ta n.ts.length) (hk : BlkIn a m n.ka n.ks.length)
      (hf0 : m ≤ f 0) (hfm : ∀ i, i < n.ks.length → f i ≤ f (i + 1)) (hfh : f n.ks.length ≤ hi) (hks : ∀ i, i < n.ks.length → NT.Sep (f i) (f (i + 1)) (n.ks.getD i default)) : NT.Sep lo hi n
theorem mono_of {f : Nat → Nat} {n : Nat} (h : ∀ i, i < n → f i ≤ f (i + 1)) : ∀ j, j ≤ n → ∀ i, i ≤ j → f i ≤ f j := by
  intro j
  induction j with
  | zero => intro _ i hi; obtain rfl : i = 0 := by omega
            exact Nat.le_refl _
  | succ j ih =>
    intro hj i hi
    rcases Nat.lt_or_ge i (j + 1) with h1 | h1
    · exact Nat.le_trans (ih (by omega) i (by omega)) (h j (by omega))
    · obtain rfl : i = j + 1 := by omega
      exact Nat.le_refl _
theorem NT.Sep.le {lo hi : Nat} {n : NT} (h : n.Sep lo hi) : lo ≤ hi := by
  obtain ⟨_, _, a, m, _, f, h1, h2, _, _, _, hf0, hfm, hfh, _⟩ := h
  have := mono_of hfm n.ks.length (Nat.le_refl _) 0 (Nat.zero_le _)
  omega
theorem NT.Sep.mono {lo hi lo' hi' : Nat} {n : NT} (h : n.Sep lo hi) (k1 : lo' ≤ lo) (k2 : hi ≤ hi') : n.Sep lo' hi' := by
  obtain ⟨_, _, a, m, _, f, h1, h2, hp, ht, hk, hf0, hfm, hfh, hks⟩ := h
  exact .mk n lo' a m hi' f (by omega) h2 (hp.mono k1 (Nat.le_refl _)) (ht.mono k1 (Nat.le_refl _)) hk hf0 hfm (by omega) hks
/-- what lies apart lies between its own numbers -/
theorem NT.Sep.narrow {lo hi : Nat} {n : NT} (h : n.Sep lo hi) {w : World} {l u : Nat} (hin : n.In w l u) : n.In w lo hi := by
  induction h with
  | mk n lo a m hi f h1 h2 hp ht hk hf0 hfm hfh hks ih =>
    have hmono := mono_of hfm
    have h0n := hmono n.ks.length (Nat.le_refl _) 0 (Nat.zero_le _)
    rw [NT.In_iff] at hin ⊢
    refine ⟨RowIn.narrow hin.1 (hp.mono (Nat.le_refl _) (by omega)), ⟨RowIn.narrow hin.2.1.1 (ht.mono (Nat.le_refl _) (by omega)), hin.2.1.2⟩, RowIn.narrow hin.2.2.1 (hk.mono (by omega) (by omega)), fun k hk' => ?_⟩
    obtain ⟨i, hi', rfl⟩ := List.getElem_of_mem hk'
    have e : n.ks.getD i default = n.ks[i] := by simp [List.getD, List.getElem?_eq_getElem hi']
    have := ih i hi' (by rw [e]; exact hin.2.2.2 _ hk')
    rw [e] at this
    have a1 := hmono i (by omega) 0 (Nat.zero_le _)
    have a2 := hmono n.ks.length (Nat.le_refl _) (i + 1) (by omega)
    exact this.mono (by omega) (by omega)
end Go.Proofs.Ytgnlgfkolbecmaa
