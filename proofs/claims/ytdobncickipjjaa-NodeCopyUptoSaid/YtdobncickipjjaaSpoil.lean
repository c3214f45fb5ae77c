/- redlinelaw04.spoil: what it writes is of the same kind, and lies in the tree. -/
import Derived.Test.YtdobncickipjjaaOwn
import Derived.Test.YtdobncickipjjaaChecked
import Derived.Outline
namespace Go.Proofs.Ytdobncickipjjaa
open Go Go.RowKit

def Within (lo hi : Nat) : Nat → Prop := fun k => lo ≤ k ∧ k < hi

/-- the spoiler's world: its own box, and what is alike -/
def SpoilInv (w0 w1 : World) (lo hi : Nat) (W : World) : Prop := Keeps (Within lo hi) w1 W ∧ Like hi w0 W

theorem OwnRow.cellOf {w w' : World} {lo hi : Nat} {a : Option Addr} {n c k : Nat} {f : Nat → Nat → Value} (h : OwnRow w lo hi a n c k f) (hl : Like hi w w') {i : Nat} (hi' : i < n) :
    ∃ b o, a = some ⟨b, o, none⟩ ∧ lo ≤ b ∧ b < hi ∧ (∀ j, j < k → w.cell? ⟨b, o + i * k + j, none⟩ = some (f i j)) ∧ ∀ j, w'.frozen? ⟨b, j, none⟩ = false := by
  obtain ⟨b, o, ha, h1, h2, hc⟩ := h.1.2 (by omega)
  exact ⟨b, o, ha, h1, h2, fun j hj => hc i hi' j hj, fun j => (hl ⟨b, j, none⟩ h2).2.trans (h.2 (by omega) _ ha j)⟩
theorem SpoilInv.set {w0 w1 W : World} {lo hi : Nat} (h : SpoilInv w0 w1 lo hi W) {p : Addr} {u v : Value} (h1 : lo ≤ p.block) (h2 : p.block < hi) (hc : W.cell? p = some v) (hk : Kind u = Kind v) : SpoilInv w0 w1 lo hi (W.setCell p u) :=
  ⟨h.1.setCell (Or.inr ⟨h1, h2⟩) _, h.2.set hc hk⟩

set_option maxHeartbeats 4000000 in
theorem spoil_step (n : NT) (z : Bool) (w0 w : World) (lo hi : Nat) (hn : n.Own w0 lo hi) (hl : Like hi w0 w) (hh : hi ≤ w.heap.size) (hb : n.er.bulk ≤ 1048576)
    (hih : ∀ q ∈ n.ks, ∀ y w1, Like hi w0 w1 → hi ≤ w1.heap.size → Calls Try.prog 18 #[.agg #[.bool y, .slice q.pa q.ps.length q.pc, .slice q.ta q.ts.length q.tc, .slice q.ka q.ks.length q.kc]] w1 fun e w' => e = .returned (.tuple #[]) ∧ Keeps (Within lo hi) w1 w' ∧ Like hi w0 w') :
    Calls Try.prog 18 #[.agg #[.bool z, .slice n.pa n.ps.length n.pc, .slice n.ta n.ts.length n.tc, .slice n.ka n.ks.length n.kc]] w fun e w' => e = .returned (.tuple #[]) ∧ Keeps (Within lo hi) w w' ∧ Like hi w0 w' := by
  obtain ⟨hp, ht, htr, hk, hks⟩ := NT.Own_iff.1 hn
  have hlens := n.lens
  have l1 : n.ps.length ≤ 1048576 := by omega
  have l2 : n.ts.length ≤ 1048576 := by omega
  have l3 : n.ks.length ≤ 1048576 := by omega
  clear hlens
  go_enter Try.func18, Try.ntmps18
  go_wp2_with fail
  have hw1 : Like hi w0 (w.alloc (.cells #[.bool z, .slice n.pa n.ps.length n.pc, .slice n.ta n.ts.length n.tc, .slice n.ka n.ks.length n.kc] 26)) := hl.trans (Like.grew (Grew.alloc1 _ _) hh)
  have hkw : Keeps (Within lo hi) w (w.alloc (.cells #[.bool z, .slice n.pa n.ps.length n.pc, .slice n.ta n.ts.length n.tc, .slice n.ka n.ks.length n.kc] 26)) := (Keeps.refl _ _).alloc _
  obtain ⟨b0, b1, b2, b3, hz⟩ := box4 (Grew.refl (w.alloc (.cells #[.bool z, .slice n.pa n.ps.length n.pc, .slice n.ta n.ts.length n.tc, .slice n.ka n.ks.length n.kc] 26)))
  generalize w.alloc (.cells #[.bool z, .slice n.pa n.ps.length n.pc, .slice n.ta n.ts.length n.tc, .slice n.ka n.ks.length n.kc] 26) = w1 at *
  have hbox : ∀ W, Keeps (Within lo hi) w1 W → W.cell? ⟨w.heap.size, 1, none⟩ = some (.slice n.pa n.ps.length n.pc) ∧ W.cell? ⟨w.heap.size, 2, none⟩ = some (.slice n.ta n.ts.length n.tc) ∧ W.cell? ⟨w.heap.size, 3, none⟩ = some (.slice n.ka n.ks.length n.kc) := fun W hW =>
    have h : ∀ j, W.cell? ⟨w.heap.size, j, none⟩ = w1.cell? ⟨w.heap.size, j, none⟩ := fun j => hW.cell (p := ⟨w.heap.size, j, none⟩) hz (fun hx => by have := hx.2; simp at this; omega)
    ⟨(h 1).trans b1, (h 2).trans b2, (h 3).trans b3⟩
  have HB := Lib.hid hbox
  have HP := Lib.hid hp
  have HT := Lib.hid ht
  have HK := Lib.hid hk
  have HL := Lib.hid hw1
  have HW := Lib.hid hkw
  have HC := Lib.hid hih
  clear hbox hp ht hk hw1 hkw hl hn htr hks hih b0 b3 b2
  go_wp2_with fail
  go_loopw [8] (fun i wr => ∃ (k : Nat), k ≤ n.ps.length ∧ i = .int .i64 k ∧ SpoilInv w0 w1 lo hi wr) (fun i _ => n.ps.length - (intOf i).toNat)
  case atStart => exact ⟨0, by omega, rfl, Keeps.refl _ _, HL.out⟩
  obtain ⟨k, hk1, rfl, hI⟩ := hrel
  have HI := Lib.hid hI
  obtain ⟨x1, x2, x3⟩ := HB.out _ hI.1
  clear hI
  by_cases hlt : k < n.ps.length
  · obtain ⟨b, o, hpa, h1, h2, hc, hf⟩ := HP.out.cellOf HI.out.2 hlt
    obtain ⟨y, hy⟩ := HI.out.2.string h2 (hc 1 (by omega))
    have HN := fun u => Lib.hid (HI.out.set (u := .string u) h1 h2 hy rfl)
    clear hc HP HT HK
    generalize n.pa = pa at *
    subst hpa
    go_wp2_with fail
    go_roundw
    case rel => exact ⟨k + 1, by omega, by go_num, (HN _).out⟩
    case measure => simp [intOf]; omega
  clear HP
  go_wp2_with fail
  clear hlt hk1
  go_loopw [20] (fun i wr => ∃ (k : Nat), k ≤ n.ts.length ∧ i = .int .i64 k ∧ SpoilInv w0 w1 lo hi wr) (fun i _ => n.ts.length - (intOf i).toNat)
  case atStart => exact ⟨0, by omega, rfl, HI.out⟩
  clear HI x1 x2 x3
  obtain ⟨k, hk1, rfl, hI⟩ := hrel
  have HI := Lib.hid hI
  obtain ⟨x1, x2, x3⟩ := HB.out _ hI.1
  clear hI
  by_cases hlt : k < n.ts.length
  · obtain ⟨b, o, hta, h1, h2, hc, hf⟩ := HT.out.cellOf HI.out.2 hlt
    obtain ⟨y, hy⟩ := HI.out.2.int h2 (hc 0 (by omega))
    simp only [Nat.mul_one, Nat.add_zero] at hy
    have HN := fun u => Lib.hid (HI.out.set (u := .int .i32 u) h1 h2 hy rfl)
    clear hc HT HK
    generalize n.ta = ta at *
    subst hta
    go_wp2_with fail
    go_roundw
    case rel => exact ⟨k + 1, by omega, by go_num, (HN _).out⟩
    case measure => simp [intOf]; omega
  clear HT
  go_wp2_with fail
  clear hlt hk1
  go_loopw [34] (fun i wr => ∃ (k : Nat), k ≤ n.ks.length ∧ i = .int .i64 k ∧ SpoilInv w0 w1 lo hi wr) (fun i _ => n.ks.length - (intOf i).toNat)
  case atStart => exact ⟨0, by omega, rfl, HI.out⟩
  clear HI x1 x2 x3
  obtain ⟨k, hk1, rfl, hI⟩ := hrel
  have HI := Lib.hid hI
  obtain ⟨x1, x2, x3⟩ := HB.out _ hI.1
  clear hI
  by_cases hlt : k < n.ks.length
  · obtain ⟨b, o, hka, h1, h2, hc, hf⟩ := HK.out.cellOf HI.out.2 hlt
    obtain ⟨y, c0⟩ := HI.out.2.bool (p := ⟨b, o + k * 4 + 0, none⟩) h2 (hc 0 (by omega))
    have c1 : wr.cell? ⟨b, o + k * 4 + 1, none⟩ = some (.slice (n.ks.getD k default).pa (n.ks.getD k default).ps.length (n.ks.getD k default).pc) := HI.out.2.slice (p := ⟨b, o + k * 4 + 1, none⟩) h2 (hc 1 (by omega))
    have c2 : wr.cell? ⟨b, o + k * 4 + 2, none⟩ = some (.slice (n.ks.getD k default).ta (n.ks.getD k default).ts.length (n.ks.getD k default).tc) := HI.out.2.slice (p := ⟨b, o + k * 4 + 2, none⟩) h2 (hc 2 (by omega))
    have c3 : wr.cell? ⟨b, o + k * 4 + 3, none⟩ = some (.slice (n.ks.getD k default).ka (n.ks.getD k default).ks.length (n.ks.getD k default).kc) := HI.out.2.slice (p := ⟨b, o + k * 4 + 3, none⟩) h2 (hc 3 (by omega))
    simp only [Nat.add_zero] at c0
    have hwz := HW.out.size
    have hrz := HI.out.1.size
    have HQ := Lib.hid (HC.out (n.ks.getD k default) (getD_mem _ _ hlt) y wr HI.out.2 (by omega))
    have HKC := Lib.hid (fun (w' : World) (hl : Like hi w0 w') => (⟨hl.bool (p := ⟨b, o + k * 4 + 0, none⟩) h2 (hc 0 (by omega)), fun j => (hl ⟨b, j, none⟩ h2).2.trans (HK.out.2 (by omega) _ hka j)⟩ : (∃ y', w'.cell? ⟨b, o + k * 4 + 0, none⟩ = some (.bool y')) ∧ ∀ j, w'.frozen? ⟨b, j, none⟩ = false))
    simp only [Nat.add_zero] at HKC
    clear hc
    generalize n.ka = ka at *
    subst hka
    generalize n.ks.getD k default = q at *
    go_wp2_with fail
    refine HQ.out.mono ?_
    rintro e w2 ⟨rfl, hkp, hlk⟩
    have HI2 : Hid (SpoilInv w0 w1 lo hi w2) := ⟨HI.out.1.trans hkp, hlk⟩
    obtain ⟨⟨y', d0⟩, df⟩ := HKC.out w2 hlk
    obtain ⟨z1, z2, z3⟩ := HB.out _ HI2.out.1
    have HN := fun u => Lib.hid (HI2.out.set (p := ⟨b, o + k * 4, none⟩) (u := .bool u) h1 h2 d0 rfl)
    clear hkp hlk
    go_wp2_with fail
    go_region
    go_wp2_with fail
    go_roundw
    case rel => exact ⟨k + 1, by omega, by go_num, (HN _).out.1.drew, (HN _).out.2⟩
    case measure => simp [intOf]; omega
  have HE := Lib.hid (⟨HW.out.trans HI.out.1, HI.out.2⟩ : Keeps (Within lo hi) w wr ∧ Like hi w0 wr)
  go_wp2_with fail
  refine bodyPost_end (results_none rfl _ _ _) rfl ?_
  exact ⟨rfl, HE.out⟩
theorem spoil_any (n : NT) (z : Bool) (w0 w : World) (lo hi : Nat) (hn : n.Own w0 lo hi) (hl : Like hi w0 w) (hh : hi ≤ w.heap.size) (hb : n.er.bulk ≤ 1048576) :
    Calls Try.prog 18 #[.agg #[.bool z, .slice n.pa n.ps.length n.pc, .slice n.ta n.ts.length n.tc, .slice n.ka n.ks.length n.kc]] w fun e w' => e = .returned (.tuple #[]) ∧ Keeps (Within lo hi) w w' ∧ Like hi w0 w' := by
  induction n using NT.ind generalizing w z with
  | h n ih =>
    refine spoil_step n z w0 w lo hi hn hl hh hb (fun q hq y w1 h1 h2 => ih q hq y w1 ((NT.Own_iff.1 hn).2.2.2.2 q hq) h1 h2 ?_)
    have := T.bulk_kid (n := n.er) (k := q.er) (by rw [NT.er_ks]; exact er_mem hq)
    omega
end Go.Proofs.Ytdobncickipjjaa
