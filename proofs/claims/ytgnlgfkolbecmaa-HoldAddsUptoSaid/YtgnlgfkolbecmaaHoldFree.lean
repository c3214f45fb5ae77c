/- slices.Delete on refs (one of them), hold.Free: the contracts. -/
import Derived.Test.YtgnlgfkolbecmaaHoldGet
import Derived.Deep.RegionLaw
namespace Go.Proofs.Ytgnlgfkolbecmaa
open Go Go.RowKit

theorem wp_append_room {P : Program} {o : Oper} {a : Act} {w : World} {K : Act → World → Prop} {Q : Exit → Act → World → Prop}
    (hg : o.guard = none) (s x : Operand) (t : TypeId) (hop : o.op = Op.call { callee := Callee.builtin Builtin.append, args := #[s, x], argTypes := #[t, t] }) (dst : Option Tmp) (hdst : o.dst = dst)
    (e : TypeId) (i : TypeInfo) (size : Nat) (h1 : P.underlying t = some (.slice e)) (h2 : P.info? e = some i) (h4 : i.size = size)
    (b off n cap : Nat) (hs : a.eval s = .slice (some ⟨b, off, none⟩) n cap)
    (ad : Addr) (m c : Nat) (news : List Value) (hx : a.eval x = .slice (some ad) m c) (hn : news.length = m * size) (hc : ∀ j u, news[j]? = some u → w.cell? (ad.add j) = some u) (h1c : ∀ u ∈ news, u.oneCell' = true)
    (hroom : n + m ≤ cap) (hspare : ∀ j, j < news.length → (w.cell? ⟨b, off + n * size + j, none⟩).isSome = true ∧ w.frozen? ⟨b, off + n * size + j, none⟩ = false)
    (hK : K (a.put dst (.slice (some ⟨b, off, none⟩) (n + m) cap)) (w.setCells b (off + n * size) news)) : Oper.wp P o a w K Q := by
  subst hdst
  have h := step_append_room (P := P) (ops := #[]) (K := K) (Q := Q) (E := True) (o := o) (a := a) hg s x t hop e i size h1 h2 h4 b off n cap hs ad m c news hx hn hc h1c hroom hspare hK
  rw [if_pos (by simp [Region.wanted, hg])] at h
  exact h
theorem run_clear_ref (w : World) (ty : TypeId) (b o c : Nat) (ht : w.there b o 11) :
    (Builtin.clear_ #[27] ty #[.slice (some ⟨b, o, none⟩) 1 c]).run Try.prog w = .ok (.tuple #[]) (w.setCells b o RefL.nil.cells) := by
  have hst := run_storeCells_cells (P := Try.prog) b o RefL.nil.cells 0 w (fun j hj => (by have := (ht j (by rw [RefL.cells_len] at hj; exact hj)).1; simpa using this)) (fun j hj => (by have := (ht j (by rw [RefL.cells_len] at hj; exact hj)).2; simpa using this)) RefL.nil.cells_one
  simp only [Nat.add_zero] at hst
  have hv := Try.zeroValue34
  have hz : (Builtin.zeroCells (Value.agg #[.int .i64 0, .int .i64 0, .int .i64 0, .bool false, .slice none 0 0, .slice none 0 0, .int .i64 0, .slice none 0 0, .int .i64 0, .slice none 0 0, .int .i64 0]).cells 1).toList = RefL.nil.cells := by kernel_rfl
  simp [Builtin.clear_, run_underlying Try.underlying27, hv, hz, hst]
theorem erase_flat (L : List RefL) (i : Nat) : (L.eraseIdx i).flatMap RefL.cells = (L.take i).flatMap RefL.cells ++ (L.drop (i + 1)).flatMap RefL.cells := by
  rw [List.eraseIdx_eq_take_drop_succ, List.flatMap_append]
theorem flat_split (L : List RefL) (i : Nat) : L.flatMap RefL.cells = (L.take i).flatMap RefL.cells ++ (L.drop i).flatMap RefL.cells := by
  rw [← List.flatMap_append, List.take_append_drop]
/-- what lies there behind one was taken out -/
theorem erase_cells {w W : World} {g i : Nat} {L : List RefL} (hi : i < L.length) (hc : ∀ q, q < L.length * 11 → w.cell? ⟨g, q, none⟩ = (L.flatMap RefL.cells)[q]?)
    {w1 : World} (h1 : ∀ q, w1.cell? ⟨g, q, none⟩ = (w.setCells g (i * 11) ((L.drop (i + 1)).flatMap RefL.cells)).cell? ⟨g, q, none⟩) (hW : W = w1.setCells g ((L.length - 1) * 11) RefL.nil.cells) : ∀ q, q < (L.length - 1) * 11 → W.cell? ⟨g, q, none⟩ = ((L.eraseIdx i).flatMap RefL.cells)[q]? := by
  intro q hq
  have l1 : ((L.take i).flatMap RefL.cells).length = i * 11 := by rw [flat_len RefL.cells_len, List.length_take_of_le (by omega)]
  have l2 : ((L.drop (i + 1)).flatMap RefL.cells).length = (L.length - (i + 1)) * 11 := by rw [flat_len RefL.cells_len, List.length_drop]
  rw [hW, World.cell?_setCells_out g _ _ _ _ (fun _ _ => Or.inl hq), h1, erase_flat]
  by_cases h : q < i * 11
  · rw [World.cell?_setCells_out g _ _ _ _ (fun _ _ => Or.inl h), hc q (by omega), flat_split L i, List.getElem?_append_left (by omega), List.getElem?_append_left (by omega)]
  · rw [List.getElem?_append_right (by omega), l1]
    have h3 : q - i * 11 < ((L.drop (i + 1)).flatMap RefL.cells).length := by rw [l2]; omega
    have := World.cell?_setCells_in g ((L.drop (i + 1)).flatMap RefL.cells) (i * 11) w (fun j hj => by
      rw [l2] at hj
      rw [hc (i * 11 + j) (by omega), List.getElem?_eq_getElem (by rw [flat_len RefL.cells_len]; omega)]; rfl) (q - i * 11) h3
    rw [show i * 11 + (q - i * 11) = q by omega] at this
    rw [this, List.getElem?_eq_getElem h3]

theorem drew_setCells (g : Nat) : ∀ (vs : List Value) (o : Nat) (w : World), w.drew.setCells g o vs = (w.setCells g o vs).drew
  | [], _, _ => rfl
  | v :: r, o, w => by
    rw [World.setCells, World.setCells, ← drew_setCells g r (o + 1)]
    rfl
set_option maxRecDepth 100000 in
set_option maxHeartbeats 2000000 in
theorem deleteRef_any (L : List RefL) (base g i : Nat) (w : World) (hown : w.ownsRow base 34 11 (.slice (some ⟨g, 0, none⟩) L.length L.length) L.length (L.flatMap RefL.cells)) (hi : i < L.length) (hl : L.length ≤ 1048576) (hgs : g < w.heap.size) :
    Calls Try.prog 32 #[.slice (some ⟨g, 0, none⟩) L.length L.length, .int .i64 i, .int .i64 (i + 1)] w fun e w' =>
      e = .returned (.slice (some ⟨g, 0, none⟩) (L.eraseIdx i).length L.length) ∧ Keeps (· = g) w w' ∧ RefRow w' g (g + 1) (some ⟨g, 0, none⟩) L.length (L.eraseIdx i) := by
  obtain ⟨i0, hinf, hz0, hz1, hz2⟩ := info_parts infoRefF
  have hlen : (L.eraseIdx i).length = L.length - 1 := List.length_eraseIdx_of_lt hi
  have hc := fun q (hq : q < L.length * 11) => hown.cellAt q hq
  have hth := own_there hown
  have l2 : ((L.drop (i + 1)).flatMap RefL.cells).length = (L.length - (i + 1)) * 11 := by rw [flat_len RefL.cells_len, List.length_drop]
  have hnews : ∀ j u, ((L.drop (i + 1)).flatMap RefL.cells)[j]? = some u → w.drew.cell? ((⟨g, (i + 1) * 11, none⟩ : Addr).add j) = some u := fun j u hj => by
    obtain ⟨hj1, _⟩ := List.getElem?_eq_some_iff.1 hj
    rw [l2] at hj1
    have ea : ((⟨g, (i + 1) * 11, none⟩ : Addr).add j) = ⟨g, (i + 1) * 11 + j, none⟩ := by simp [Addr.add]
    rw [ea]
    show w.cell? ⟨g, (i + 1) * 11 + j, none⟩ = some u
    rw [hc _ (by omega), flat_split L (i + 1), List.getElem?_append_right (by rw [flat_len RefL.cells_len, List.length_take_of_le (by omega)]; omega), flat_len RefL.cells_len, List.length_take_of_le (by omega), show (i + 1) * 11 + j - (i + 1) * 11 = j by omega]
    exact hj
  have hspare : ∀ j, j < ((L.drop (i + 1)).flatMap RefL.cells).length → (w.drew.cell? ⟨g, 0 + i * 11 + j, none⟩).isSome = true ∧ w.drew.frozen? ⟨g, 0 + i * 11 + j, none⟩ = false := fun j hj => by
    rw [l2] at hj
    have := hth (i * 11 + j) (by omega)
    rw [Nat.zero_add] at this ⊢
    exact this
  have H1 := Lib.hid (flat_one RefL.cells_one (L.drop (i + 1)))
  have HF : Hid (∀ w1, w1 = (w.setCells g (i * 11) ((L.drop (i + 1)).flatMap RefL.cells)).drew → Keeps (· = g) w (w1.setCells g ((L.length - 1) * 11) RefL.nil.cells) ∧ RefRow (w1.setCells g ((L.length - 1) * 11) RefL.nil.cells) g (g + 1) (some ⟨g, 0, none⟩) L.length (L.eraseIdx i) ∧ w1.there g ((L.length - 1) * 11) 11) := by
    intro w1 hw1
    subst hw1
    have hrow := erase_cells (w1 := (w.setCells g (i * 11) ((L.drop (i + 1)).flatMap RefL.cells)).drew) hi hc (fun q => rfl) rfl
    have hthw : (w.setCells g (i * 11) ((L.drop (i + 1)).flatMap RefL.cells)).there g ((L.length - 1) * 11) 11 := there_part (World.there_setCells hth g (i * 11) _) (by omega)
    refine ⟨((setCells_keepsAt g _ _ w).trans ((Grew.refl _).drew.keeps _)).trans (setCells_keepsAt g _ _ _), ⟨⟨by simp, by omega, by unfold maxLen; omega⟩, fun _ => ⟨g, 0, rfl, Nat.le_refl _, by omega, fun j hj r hr => ?_⟩⟩, hthw⟩
    rw [show 0 + j * 11 + r = j * 11 + r by omega, hrow (j * 11 + r) (by omega)]
    exact flat_at RefL.cells_len _ j hj r hr
  have HN := Lib.hid hnews
  have HSP := Lib.hid hspare
  have HLN := Lib.hid hlen
  have HL2 := Lib.hid l2
  generalize (L.drop (i + 1)).flatMap RefL.cells = news at *
  clear hnews hspare hlen l2 hc hth hown
  have e1 : ((i : Int) == (i : Int) + 1) = false := beq_eq_false_iff_ne.2 (by omega)
  have q1 : (0 : Int) ≤ i := by omega
  have q3 : (i : Int) + 1 ≤ L.length := by omega
  have q5 : (i : Int) ≤ L.length := by omega
  have EI : Hid (i + (L.length - (i + 1)) = L.length - 1) := by show _ = _; omega
  have z7 : ((L.length - 1 : Nat) : Int) ≤ L.length := by omega
  have z8 : ((L.length - 1 : Nat) : Int) < L.length := by omega
  have EL : Hid (L.length - (L.length - 1) = 1) := by show _ = _; omega
  go_enter Try.func32, Try.ntmps32
  go_upto_region 5 with fail
  by_cases hlast : i + 1 = L.length
  · have hnn : news = [] := by
      have := HL2.out
      rw [show L.length - (i + 1) = 0 by omega] at this
      exact List.length_eq_zero_iff.1 (by omega)
    have q6 : ¬ (i : Int) + 1 < L.length := by omega
    have q7 : (i : Int) + 1 = L.length := by omega
    subst hnn
    have EI2 : Hid (i + 0 = L.length - 1) := by show _ = _; omega
    have HR0 : Hid (i + 0 ≤ L.length) := by show _ ≤ _; omega
    clear hlast EI
    go_region_held3 (fun w' => Keeps (· = g) w w') ((first | with_reducible exact (Grew.refl w).drew.keeps _ | with_reducible assumption | exact Keeps.trans (by with_reducible assumption) (setCells_keepsAt g _ _ _)))
      ((refine wp_append_room rfl (.tmp 22) (.tmp 25) 27 rfl (some 26) rfl 34 i0 11 Try.underlying27 hinf hz1 g 0 i L.length rfl ⟨g, 0, none⟩ 0 0 [] rfl rfl (fun j u hj => by cases hj) (fun u hu => by cases hu) HR0.out (fun j hj => absurd hj (Nat.not_lt_zero _)) ?_))
    rw [Nat.zero_add, drew_setCells]
    obtain ⟨hk, hrow, hth⟩ := HF.out _ rfl
    generalize (w.setCells g (i * 11) []).drew = w1 at *
    rw [← EI2.out, Nat.add_zero] at hk hrow hth
    have hcl : ∀ ty, (Builtin.clear_ #[27] ty #[.slice (some ⟨g, i * 11, none⟩) (L.length - i) (L.length - i)]).run Try.prog w1 = .ok (.tuple #[]) (w1.setCells g (i * 11) RefL.nil.cells) := fun ty => by
      have := run_clear_ref w1 ty g (i * 11) (L.length - i) hth
      rw [show L.length - i = 1 by have := EI2.out; omega] at this ⊢
      exact this
    have HK := Lib.hid hk
    have HRW := Lib.hid hrow
    clear hk hrow hth q6 q7 e1
    go_wp2_with fail
    go_ret
    refine ⟨?_, HK.out, HRW.out⟩
    rw [HLN.out, ← EI2.out]
    rfl
  · have q6 : (i : Int) + 1 < L.length := by omega
    have q7 : ((i : Int) + 1).toNat = i + 1 := by omega
    have q2 : (0 : Int) ≤ (i : Int) + 1 := by omega
    have q13 : ¬ L.length = i + 1 := by omega
    have HHL : Hid (i + 1 < L.length) := by show _ < _; omega
    clear hlast
    go_region_held3 (fun w' => Keeps (· = g) w w') ((first | with_reducible exact (Grew.refl w).drew.keeps _ | with_reducible assumption | exact Keeps.trans (by with_reducible assumption) (setCells_keepsAt g _ _ _)))
      ((refine wp_append_room rfl (.tmp 22) (.tmp 25) 27 rfl (some 26) rfl 34 i0 11 Try.underlying27 hinf hz1 g 0 i L.length rfl ⟨g, (i + 1) * 11, none⟩ (L.length - (i + 1)) (L.length - (i + 1)) news rfl HL2.out (fun j u hj => HN.out j u hj) H1.out (by have := HHL.out; omega) (fun j hj => HSP.out j hj) ?_))
    rw [Nat.zero_add, drew_setCells, EI.out]
    obtain ⟨hk, hrow, hth⟩ := HF.out _ rfl
    generalize (w.setCells g (i * 11) news).drew = w1 at *
    have hcl : ∀ ty, (Builtin.clear_ #[27] ty #[.slice (some ⟨g, (L.length - 1) * 11, none⟩) (L.length - (L.length - 1)) (L.length - (L.length - 1))]).run Try.prog w1 = .ok (.tuple #[]) (w1.setCells g ((L.length - 1) * 11) RefL.nil.cells) := fun ty => by
      have := run_clear_ref w1 ty g ((L.length - 1) * 11) (L.length - (L.length - 1)) hth
      rw [EL.out] at this ⊢
      exact this
    have HK := Lib.hid hk
    have HRW := Lib.hid hrow
    clear hk hrow hth q6 q7 e1
    go_wp2_with fail
    go_ret
    refine ⟨?_, HK.out, HRW.out⟩
    rw [HLN.out]
    rfl

theorem map_erase {α β : Type} (f : α → β) (L : List α) (i : Nat) : (L.map f).eraseIdx i = (L.eraseIdx i).map f := by
  rw [List.eraseIdx_eq_take_drop_succ, List.eraseIdx_eq_take_drop_succ, List.map_append, List.map_take, List.map_drop]
/-- the others without one -/
def freeR (l : List RefE) (id : Int) : List RefE × Int := match l.findIdx? (fun r => decide (r.id = id)) with
  | some i => (l.eraseIdx i, 0)
  | none => ([], 14)
theorem free_cases (L : List RefL) (id : Int) : (idxOf (isId id) L = -1 ∧ freeR (L.map RefL.er) id = ([], 14)) ∨ ∃ k : Nat, idxOf (isId id) L = k ∧ k < L.length ∧ freeR (L.map RefL.er) id = ((L.eraseIdx k).map RefL.er, 0) := by
  unfold idxOf freeR
  rw [List.findIdx?_map]
  have e : ((fun r : RefE => decide (r.id = id)) ∘ RefL.er) = isId id := rfl
  rw [e]
  cases h : L.findIdx? (isId id) with
  | none => exact Or.inl ⟨rfl, rfl⟩
  | some k =>
    rw [List.findIdx?_eq_some_iff_getElem] at h
    obtain ⟨hk, _⟩ := h
    exact Or.inr ⟨k, rfl, hk, by dsimp only; rw [map_erase]⟩
/-- refs, and an error -/
def RetRefsE (r : List RefE × Int) (w : World) (e : Ending) (w' : World) : Prop := ∃ (a : Option Addr) (c : Nat) (L : List RefL), e = .returned (.tuple #[.slice a L.length c, .int .i64 r.2]) ∧ Grew w w' ∧ RefsIn w' a c L ∧ Hid (L.map RefL.er = r.1)
set_option maxRecDepth 100000 in
set_option maxHeartbeats 2000000 in
theorem holdFree_any (L : List RefL) (a : Option Addr) (c : Nat) (id : Int) (w : World) (hL : RefsIn w a c L) (hs : ∀ r ∈ L, r.er.Small) (hlen : L.length ≤ 1048576) :
    Calls Try.prog 16 #[.slice a L.length c, .int .i64 id] w (RetRefsE (freeR (L.map RefL.er) id) w) := by
  have PL := Lib.hid (place_any L a c id w hL.1 hlen)
  have AL := Lib.hid (fun w1 (hg : Grew w w1) => holdAll_any a c L w1 (hL.grew hg) hs hlen)
  have HC := Lib.hid (free_cases L id)
  generalize idxOf (isId id) L = ix at *
  generalize freeR (L.map RefL.er) id = gr at *
  clear hL hs
  go_enter Try.func16, Try.ntmps16
  go_wp2_with fail
  refine PL.out.mono ?_
  rintro e w2 ⟨rfl, g2⟩
  rcases HC.out with ⟨hix, hgr⟩ | ⟨k, hix, hk, hgr⟩
  · have HX := Lib.hid hgr
    subst hix
    clear hgr HC
    go_wp2_with fail
    go_ret2
    rw [HX.out]
    exact ⟨none, 0, [], rfl, g2, refsIn_nil, rfl⟩
  · have HX := Lib.hid hgr
    have hix' : ix = (k : Int) := hix
    subst hix'
    clear hgr HC hix
    go_wp2_with fail
    refine (AL.out w2 g2).mono ?_
    rintro e w3 ⟨M, rfl, g3, ⟨hown, hin⟩, hMe⟩
    have hML : M.length = L.length := by have := congrArg List.length hMe.out; simpa using this
    have HM := Lib.hid hML
    have HZ3 := (hown.lt w2.heap.size rfl).2
    have DL := deleteRef_any M w2.heap.size w2.heap.size k w3 hown (by omega) (by omega) (hown.lt w2.heap.size rfl).2
    have hkm : (k : Int) < 1048576 := by omega
    have DL := Lib.hid DL
    clear hML hown
    go_wp2_with fail
    refine DL.out.mono ?_
    rintro e w4 ⟨rfl, hk4, hrow⟩
    have z4 := hk4.size
    have z3g := HZ3
    have hin4 : ∀ r ∈ M.eraseIdx k, r.In w4 0 w4.heap.size := fun r hr => ((hin r (List.mem_of_mem_eraseIdx hr)).agree (hk4.agree (Nat.le_refl _) (fun j h1 h2 => by show ¬ j = _; omega))).mono (Nat.zero_le _) z4
    have hE : Hid ((M.eraseIdx k).map RefL.er = gr.1) := by
      show _ = _
      rw [HX.out, ← map_erase, ← map_erase, hMe.out]
    have hG : Grew w w4 := (g2.trans g3).keep hk4 (fun j hj => by show _ ≤ j; rw [hj]; exact g2.size)
    have hrow4 : RefRow w4 0 w4.heap.size (some ⟨w2.heap.size, 0, none⟩) M.length (M.eraseIdx k) := RowIn.mono hrow (Nat.zero_le _) (by omega)
    clear DL hrow hin
    go_wp2_with fail
    go_ret2
    refine ⟨_, _, _, ?_, hG, ⟨hrow4, hin4⟩, hE⟩
    rw [HX.out]; rfl
end Go.Proofs.Ytgnlgfkolbecmaa
