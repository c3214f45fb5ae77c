/- slices.Insert of a Kid: the contract, on trees. -/
import Derived.Test.YtbhbekocmpmjfaaGreatDoorK07
import Derived.Deep.RegionHeld3
namespace Go.Proofs.YtbhbekocmpmjfaaGreatDoor
open Go Go.RowKit

theorem cellsOfNodes_app (A B : List NT) : cellsOfNodes (A ++ B) = cellsOfNodes A ++ cellsOfNodes B := by simp [cellsOfNodes]
theorem cellsOfNodes_cons (m : NT) (B : List NT) : cellsOfNodes (m :: B) = m.cells4 ++ cellsOfNodes B := by simp [cellsOfNodes, NT.cells4]
theorem cellsOfNodes_take (ks : List NT) (i : Nat) : (cellsOfNodes ks).take (i * 4) = cellsOfNodes (ks.take i) ∧ (cellsOfNodes ks).drop (i * 4) = cellsOfNodes (ks.drop i) := by
  rcases Nat.lt_or_ge i ks.length with h | h
  · have e : cellsOfNodes ks = cellsOfNodes (ks.take i) ++ cellsOfNodes (ks.drop i) := by rw [← cellsOfNodes_app, List.take_append_drop]
    have hl : (cellsOfNodes (ks.take i)).length = i * 4 := by rw [cellsOfNodes_len, List.length_take]; omega
    constructor
    · rw [e, List.take_append_of_le_length (by omega), List.take_of_length_le (by omega)]
    · rw [e, List.drop_append_of_le_length (by omega), List.drop_of_length_le (by omega), List.nil_append]
  · have hl : (cellsOfNodes ks).length = ks.length * 4 := cellsOfNodes_len ks
    rw [List.take_of_length_le (by omega), List.drop_of_length_le (by omega), List.take_of_length_le h, List.drop_of_length_le h]
    exact ⟨rfl, rfl⟩
theorem cellsOfNodes_ins (ks : List NT) (m : NT) (i : Nat) : (cellsOfNodes ks).take (i * 4) ++ m.cells4 ++ (cellsOfNodes ks).drop (i * 4) = cellsOfNodes (ks.take i ++ m :: ks.drop i) := by
  rw [(cellsOfNodes_take ks i).1, (cellsOfNodes_take ks i).2, cellsOfNodes_app, cellsOfNodes_cons, List.append_assoc]
/-- the block of a node's Kids -/
def kidsBlk (ka : Option Addr) (n k : Nat) : Prop := 0 < n ∧ ∃ o, ka = some ⟨k, o, none⟩
/-- Kids with one more -/
def InsKid (ka0 : Option Addr) (ks : List NT) (m : NT) (i l h : Nat) (w : World) (e : Ending) (w' : World) : Prop :=
  ∃ ka kc, e = .returned (.slice ka (ks.length + 1) kc) ∧ Keeps (kidsBlk ka0 ks.length) w w' ∧ (RowIn w' l h ka (ks.length + 1) kc 4 (fun i' j => ((ks.take i ++ m :: ks.drop i).getD i' default).cell j) ∨ RowIn w' w.heap.size w'.heap.size ka (ks.length + 1) kc 4 (fun i' j => ((ks.take i ++ m :: ks.drop i).getD i' default).cell j))
theorem insKid_of {ka0 : Option Addr} {ks : List NT} {m : NT} {i l h b n : Nat} {rs : List Value} {w w' : World} {e : Ending} (hi : i ≤ ks.length) (hn : n = ks.length) (_hlh : l ≤ h) (_hh : h ≤ w.heap.size) (hrs : rs = cellsOfNodes (ks.take i ++ m :: ks.drop i)) (hb : ((l ≤ b ∧ b < h) ∧ kidsBlk ka0 ks.length b) ∨ b = w.heap.size) (H : InsEnds b n rs w e w') : InsKid ka0 ks m i l h w e w' := by
  obtain ⟨g, cap, he, h1, h2, h3, h4, h5, h6⟩ := H
  subst hn hrs
  have hc : ∀ i', i' < ks.length + 1 → ∀ j, j < 4 → w'.cell? ⟨g, 0 + i' * 4 + j, none⟩ = some (((ks.take i ++ m :: ks.drop i).getD i' default).cell j) := fun i' hi' j hj => by
    have hl : (ks.take i ++ m :: ks.drop i).length = ks.length + 1 := by simp; omega
    rw [Nat.zero_add, h6 _ (by omega)]
    exact cellsOfNodes_at _ i' (by omega) j hj
  refine ⟨some ⟨g, 0, none⟩, cap, he, ?_, ?_⟩
  · exact h5.wider fun k hk hkb => by
      have hkb' : k = b := hkb
      subst hkb'
      rcases hb with ⟨_, hb⟩ | hb
      · exact hb
      · omega
  · by_cases hg : l ≤ g ∧ g < h
    · exact .inl ⟨⟨by simp, h1, h2⟩, fun _ => ⟨g, 0, rfl, hg.1, hg.2, hc⟩⟩
    · exact .inr ⟨⟨by simp, h1, h2⟩, fun _ => ⟨g, 0, rfl, by omega, h4, hc⟩⟩
theorem shape_of {w : World} {b : Nat} {cur : Array Value} {e : TypeId} (h : w.heap[b]? = some (.cells cur e (0, 0))) : w.shape? b = some (e, cur.size) := by simp [World.shape?, h]
theorem frozen_of {w : World} {b q : Nat} {cur : Array Value} {e : TypeId} (h : w.heap[b]? = some (.cells cur e (0, 0))) : w.frozen? ⟨b, q, none⟩ = false := by simp [World.frozen?, h]
theorem cell_of {w : World} {b q : Nat} {cur : Array Value} {e : TypeId} (h : w.heap[b]? = some (.cells cur e (0, 0))) : w.cell? ⟨b, q, none⟩ = cur[q]? := by simp [World.cell?, h]
theorem block_of {w : World} {b : Nat} {o : Obj} (h : w.heap[b]? = some o) : b < w.heap.size := by
  rcases Nat.lt_or_ge b w.heap.size with h1 | h1
  · exact h1
  · rw [Array.getElem?_eq_none h1] at h; cases h
set_option maxRecDepth 100000 in
set_option maxHeartbeats 1000000 in
theorem insertKid_any (y m : NT) (i l h vb : Nat) (w : World) (ho : y.Own w l h) (hr : y.Room w) (hlh : l ≤ h) (hh : h ≤ w.heap.size) (hi : i ≤ y.ks.length) (hlen : y.ks.length ≤ 1048576) (hvb : w.heap[vb]? = some (.cells m.cells4.toArray 26 (0, 0))) (hne : ¬(l ≤ vb ∧ vb < h)) :
    Calls Tryz.prog 185 #[.slice y.ka y.ks.length y.kc, .int .i64 i, .slice (some ⟨vb, 0, none⟩) 1 1] w (InsKid y.ka y.ks m i l h w) := by
  have hk := (NT.In_iff.1 ho.1).2.2.1
  have hsf := (NT.Soft_iff.1 ho.2).2.2.1
  have hrm := (NT.Room_iff.1 hr).2.1
  have hvs : ∀ j v, m.cells4[j]? = some v → w.cell? ⟨vb, j, none⟩ = some v := fun j v hj => by rw [cell_of hvb]; simpa using hj
  have hcl := cellsOfNodes_len y.ks
  have hins := cellsOfNodes_ins y.ks m i
  by_cases h0 : y.ks.length = 0
  · have hc0 := hrm.1 h0
    have hi0 : i = y.ks.length := by omega
    subst hi0
    have hrs : cellsOfNodes y.ks ++ m.cells4 = cellsOfNodes (y.ks.take y.ks.length ++ m :: y.ks.drop y.ks.length) := by
      rw [← hins, List.take_of_length_le (by omega), List.drop_of_length_le (by omega), List.append_nil]
    have := insEnd_grow y.ka y.ks.length y.kc vb (cellsOfNodes y.ks) m.cells4 w (by omega) (by omega) hlen hcl (NT.cells4_len m) (fun _ => h0) (fun a ha j v hj => by
      have := (List.getElem?_eq_some_iff.1 hj).1
      omega) hvs (NT.cells4_one m)
    exact this.mono fun e w' H => insKid_of hi rfl hlh hh hrs (.inr rfl) H
  · obtain ⟨b, o, hka, hb1, hb2, hcell⟩ := hk.2 (by omega)
    obtain ⟨rfl, cur, hcur, hsz⟩ := hrm.2 (by omega) b o hka
    have hnc := hk.1.2.1
    have hcm := hk.1.2.2
    have hcs : ∀ q, q < y.ks.length * 4 → w.cell? ⟨b, q, none⟩ = (cellsOfNodes y.ks)[q]? := fun q hq => by
      have h1 := hcell (q / 4) (by omega) (q % 4) (by omega)
      have h2 := cellsOfNodes_at y.ks (q / 4) (by omega) (q % 4) (by omega)
      rw [show 0 + q / 4 * 4 + q % 4 = q by omega] at h1
      rw [show q / 4 * 4 + q % 4 = q by omega] at h2
      rw [h1, h2]
    have hsp : ∀ q, q < y.kc * 4 → (w.cell? ⟨b, q, none⟩).isSome = true := fun q hq => by
      rw [cell_of hcur, Array.getElem?_eq_getElem (by omega)]; rfl
    have hfz : ∀ q, w.frozen? ⟨b, q, none⟩ = false := fun q => frozen_of hcur
    have hvbne : vb ≠ b := fun e => hne (by omega)
    have hbs : b < w.heap.size := by omega
    rw [hka]
    by_cases hin : i = y.ks.length
    · subst hin
      have hrs : cellsOfNodes y.ks ++ m.cells4 = cellsOfNodes (y.ks.take y.ks.length ++ m :: y.ks.drop y.ks.length) := by
        rw [← hins, List.take_of_length_le (by omega), List.drop_of_length_le (by omega), List.append_nil]
      by_cases hroom : y.ks.length + 1 ≤ y.kc
      · have := insEnd_room b y.ks.length y.kc vb (cellsOfNodes y.ks) m.cells4 w hroom hcm hcl (NT.cells4_len m) hbs hcs hsp hfz hvs (NT.cells4_one m)
        exact this.mono fun e w' H => insKid_of hi rfl hlh hh hrs (.inl ⟨⟨hb1, hb2⟩, by omega, 0, rfl⟩) H
      · have := insEnd_grow (some ⟨b, 0, none⟩) y.ks.length y.kc vb (cellsOfNodes y.ks) m.cells4 w hnc (by omega) hlen hcl (NT.cells4_len m) (fun h => (by cases h)) (fun a ha j v hj => by
          obtain rfl := Option.some.inj ha
          have h1 := (List.getElem?_eq_some_iff.1 hj).1
          rw [addr0, Nat.zero_add, hcs j (by omega)]; exact hj) hvs (NT.cells4_one m)
        exact this.mono fun e w' H => insKid_of hi rfl hlh hh hrs (.inr rfl) H
    · by_cases hroom : y.ks.length + 1 ≤ y.kc
      · exact (insMid_room b y.ks.length y.kc i vb (cellsOfNodes y.ks) m.cells4 w (by omega) hroom hcm hlen hcl (NT.cells4_len m) hbs hvbne hcs hsp hfz hvs (cellsOfNodes_one y.ks) (NT.cells4_one m) _ _ _ _ (shape_of hvb) (shape_of hcur) (by omega) (fun q => frozen_of hvb)).mono fun e w' H => insKid_of hi rfl hlh hh hins (.inl ⟨⟨hb1, hb2⟩, by omega, 0, rfl⟩) H
      · exact (insMid_grow b y.ks.length y.kc i vb (cellsOfNodes y.ks) m.cells4 w (by omega) hnc (by omega) hlen hcl (NT.cells4_len m) hbs (block_of hvb) hcs hvs (cellsOfNodes_one y.ks) (NT.cells4_one m)).mono fun e w' H => insKid_of hi rfl hlh hh hins (.inr rfl) H
/-- what of a tree that lies apart stays when the block of its Kids is written -/
theorem sep_parts {y : NT} {l h : Nat} {w w' : World} (hs : y.Sep l h) (hin : y.In w l h) (hh : h ≤ w.heap.size) (hk : Keeps (kidsBlk y.ka y.ks.length) w w') : PropsIn w' l h y.pa y.pc y.ps ∧ RunesIn w' l h y.ta y.tc y.ts ∧ ∀ k ∈ y.ks, k.In w' l h := by
  obtain ⟨_, _, a, m, _, f, h1, h2, hp, ht, hkb, hf0, hfm, hfh, hks⟩ := hs
  have hmono := mono_of hfm
  have hin' := NT.In_iff.1 hin
  have hmh : m ≤ h := by
    have := hmono y.ks.length (Nat.le_refl _) 0 (Nat.zero_le _)
    omega
  have hne : ∀ k, kidsBlk y.ka y.ks.length k → a ≤ k ∧ k < m := fun k ⟨hn, o, ho⟩ => hkb k o ho hn
  have hagA : Agree l a w w' := hk.agree (by omega) (fun k k1 k2 hb => by have := hne k hb; omega)
  refine ⟨(RowIn.agree (RowIn.narrow hin'.1 hp) hagA).mono (Nat.le_refl _) (by omega), ⟨(RowIn.agree (RowIn.narrow hin'.2.1.1 ht) hagA).mono (Nat.le_refl _) (by omega), hin'.2.1.2⟩, fun k hk' => ?_⟩
  obtain ⟨j, hj, rfl⟩ := List.getElem_of_mem hk'
  have e : y.ks.getD j default = y.ks[j] := by simp [List.getD, List.getElem?_eq_getElem hj]
  have hkj := (hks _ hj).narrow (hin'.2.2.2 _ (getD_mem _ _ hj))
  rw [e] at hkj
  have n1 := hmono j (by omega) 0 (Nat.zero_le _)
  have n2 := hmono y.ks.length (Nat.le_refl _) (j + 1) (by omega)
  have n3 := hfm j hj
  exact (hkj.agree (hk.agree (by omega) (fun k k1 k2 hb => by have := hne k hb; omega))).mono (by omega) (by omega)
theorem kidsBlk_in {y : NT} {l h : Nat} {w : World} (hin : y.In w l h) : ∀ k, kidsBlk y.ka y.ks.length k → l ≤ k ∧ k < h := fun k ⟨hn, o, ho⟩ => by
  obtain ⟨b', o', h1, h2, h3, _⟩ := (NT.In_iff.1 hin).2.2.1.2 hn
  rw [ho] at h1
  injection h1 with h1; injection h1 with h1 _
  subst h1
  exact ⟨h2, h3⟩
end Go.Proofs.YtbhbekocmpmjfaaGreatDoor
/- slices.Delete of a Kid: the contract, on trees. -/
namespace Go.Proofs.YtbhbekocmpmjfaaGreatDoor
open Go Go.RowKit

theorem wp_append_roomD {P : Program} {o : Oper} {a : Act} {w : World} {K : Act → World → Prop} {Q : Exit → Act → World → Prop}
    (hg : o.guard = none) (s x : Operand) (t : TypeId) (hop : o.op = Op.call { callee := Callee.builtin Builtin.append, args := #[s, x], argTypes := #[t, t] }) (dst : Option Tmp) (hdst : o.dst = dst)
    (e : TypeId) (i : TypeInfo) (size : Nat) (h1 : P.underlying t = some (.slice e)) (h2 : P.info? e = some i) (h4 : i.size = size)
    (b off n cap : Nat) (hs : a.eval s = .slice (some ⟨b, off, none⟩) n cap)
    (ad : Addr) (m c : Nat) (news : List Value) (hx : a.eval x = .slice (some ad) m c) (hn : news.length = m * size) (hc : ∀ j u, news[j]? = some u → w.cell? (ad.add j) = some u) (h1c : ∀ u ∈ news, u.oneCell' = true)
    (hroom : n + m ≤ cap) (hspare : ∀ j, j < news.length → (w.cell? ⟨b, off + n * size + j, none⟩).isSome = true ∧ w.frozen? ⟨b, off + n * size + j, none⟩ = false)
    (hK : K (a.put dst (.slice (some ⟨b, off, none⟩) (n + m) cap)) (w.setCells b (off + n * size) news)) : Oper.wp P o a w K Q := by
  subst hdst
  have h := step_append_room (P := P) (ops := #[]) (K := K) (Q := Q) (E := True) (o := o) (a := a) hg s x t hop e i size h1 h2 h4 b off n cap hs ad m c news hx hn hc h1c hroom hspare hK
  rw [if_pos (by simp [Region.wanted, hg])] at h
  exact h
theorem run_clear_node (w : World) (ty : TypeId) (b o c : Nat) (ht : w.there b o 4) :
    (Builtin.clear_ #[24] ty #[.slice (some ⟨b, o, none⟩) 1 c]).run Tryz.prog w = .ok (.tuple #[]) (w.setCells b o NT.nil.cells4) := by
  have hst := run_storeCells_cells (P := Tryz.prog) b o NT.nil.cells4 0 w (fun j hj => (by have := (ht j (by rw [NT.cells4_len] at hj; exact hj)).1; simpa using this)) (fun j hj => (by have := (ht j (by rw [NT.cells4_len] at hj; exact hj)).2; simpa using this)) (NT.cells4_one _)
  simp only [Nat.add_zero] at hst
  have hv := Tryz.zeroValue26
  have hz : (Builtin.zeroCells (Value.agg #[.bool false, .slice none 0 0, .slice none 0 0, .slice none 0 0]).cells 1).toList = NT.nil.cells4 := by kernel_rfl
  simp [Builtin.clear_, run_underlying Tryz.underlying24, hv, hz, hst]
theorem del_cells {w : World} {b I n : Nat} {cs zs : List Value} (hcl : cs.length = n) (hI : I + 4 ≤ n) (_hzl : zs.length = 4) (hcs : ∀ q, q < n → w.cell? ⟨b, q, none⟩ = cs[q]?) (hsp : ∀ q, q < n → (w.cell? ⟨b, q, none⟩).isSome = true) :
    ∀ q, q < n - 4 → ((w.setCells b I (cs.drop (I + 4))).setCells b (n - 4) zs).cell? ⟨b, q, none⟩ = (cs.take I ++ cs.drop (I + 4))[q]? := by
  intro q hq
  have hdl : (cs.drop (I + 4)).length = n - (I + 4) := by rw [List.length_drop, hcl]
  have htl : (cs.take I).length = I := by rw [List.length_take, hcl]; omega
  rw [cell_setN_out (by omega)]
  rcases Nat.lt_or_ge q I with h | h
  · rw [cell_setN_out (by omega), hcs q (by omega), List.getElem?_append_left (by omega), List.getElem?_take, if_pos h]
  · rw [cell_setN_in (fun j hj => hsp _ (by omega)) h (by omega), List.getElem?_append_right (by omega), htl]
def DelEnds (b n c : Nat) (rs : List Value) (w : World) (e : Ending) (w' : World) : Prop := e = .returned (.slice (some ⟨b, 0, none⟩) (n - 1) c) ∧ Keeps (· = b) w w' ∧ ∀ q, q < (n - 1) * 4 → w'.cell? ⟨b, q, none⟩ = rs[q]?
set_option maxRecDepth 100000 in
set_option maxHeartbeats 4000000 in
theorem deleteN_any (b n c i : Nat) (cs : List Value) (w : World) (hi : i < n) (hnc : n ≤ c) (hcm : c ≤ maxLen) (hn : n ≤ 1048576) (hcl : cs.length = n * 4)
    (hcs : ∀ q, q < n * 4 → w.cell? ⟨b, q, none⟩ = cs[q]?) (hfz : ∀ q, w.frozen? ⟨b, q, none⟩ = false) (h1c : ∀ v ∈ cs, v.oneCell' = true) :
    Calls Tryz.prog 183 #[.slice (some ⟨b, 0, none⟩) n c, .int .i64 i, .int .i64 (i + 1)] w (DelEnds b n c (cs.take (i * 4) ++ cs.drop ((i + 1) * 4)) w) := by
  obtain ⟨i0, hinf, hz0, hz1, hz2⟩ := info_parts infoNodeI
  have hsp : ∀ q, q < n * 4 → (w.cell? ⟨b, q, none⟩).isSome = true := fun q hq => by rw [hcs q hq, List.getElem?_eq_getElem (by omega)]; rfl
  have l2 : (cs.drop ((i + 1) * 4)).length = (n - (i + 1)) * 4 := by rw [List.length_drop, hcl]; omega
  have hnews : ∀ j u, (cs.drop ((i + 1) * 4))[j]? = some u → w.drew.cell? ((⟨b, (i + 1) * 4, none⟩ : Addr).add j) = some u := fun j u hj => by
    obtain ⟨hj1, _⟩ := List.getElem?_eq_some_iff.1 hj
    rw [l2] at hj1
    rw [addr0]
    rw [List.getElem?_drop] at hj
    exact (hcs _ (by omega)).trans hj
  have hspare : ∀ j, j < (cs.drop ((i + 1) * 4)).length → (w.drew.cell? ⟨b, 0 + i * 4 + j, none⟩).isSome = true ∧ w.drew.frozen? ⟨b, 0 + i * 4 + j, none⟩ = false := fun j hj => by
    rw [l2] at hj
    rw [Nat.zero_add]
    exact ⟨hsp _ (by omega), hfz _⟩
  have HF : Hid (∀ w1, w1 = (w.setCells b (i * 4) (cs.drop ((i + 1) * 4))).drew → (Keeps (· = b) w (w1.setCells b ((n - 1) * 4) NT.nil.cells4) ∧ ∀ q, q < (n - 1) * 4 → (w1.setCells b ((n - 1) * 4) NT.nil.cells4).cell? ⟨b, q, none⟩ = (cs.take (i * 4) ++ cs.drop ((i + 1) * 4))[q]?) ∧ w1.there b ((n - 1) * 4) 4) := by
    intro w1 hw1
    subst hw1
    have hth : (w.setCells b (i * 4) (cs.drop ((i + 1) * 4))).there b ((n - 1) * 4) 4 := fun j hj => by
      rw [World.frozen?_setCells]
      exact ⟨isSome_setN b _ _ w (fun t ht => hsp _ (by omega)) _ (hsp _ (by omega)), hfz _⟩
    refine ⟨⟨((setCells_keepsO b _ _ w).trans ((Grew.refl _).drew.keeps _)).trans (setCells_keepsO b _ _ _), fun q hq => ?_⟩, hth⟩
    have := del_cells (w := w) (b := b) (I := i * 4) (n := n * 4) (zs := NT.nil.cells4) hcl (by omega) rfl hcs hsp q (by omega)
    rw [show i * 4 + 4 = (i + 1) * 4 by omega, show n * 4 - 4 = (n - 1) * 4 by omega] at this
    rw [drew_setN]
    exact this
  have HN := Lib.hid hnews
  have HSP := Lib.hid hspare
  have HL2 := Lib.hid l2
  have H1 : Hid (∀ u ∈ cs.drop ((i + 1) * 4), u.oneCell' = true) := fun u hu => h1c u (List.mem_of_mem_drop hu)
  generalize cs.take (i * 4) ++ cs.drop ((i + 1) * 4) = rs at *
  generalize cs.drop ((i + 1) * 4) = news at *
  clear hnews hspare l2 hcs hfz hsp hcl h1c
  unfold maxLen at hcm
  have e1 : ((i : Int) == (i : Int) + 1) = false := beq_eq_false_iff_ne.2 (by omega)
  have q1 : (0 : Int) ≤ i := by omega
  have q2 : (0 : Int) ≤ (i : Int) + 1 := by omega
  have q3 : (i : Int) + 1 ≤ n := by omega
  have q5 : (i : Int) ≤ n := by omega
  have qc : (n : Int) ≤ c := by omega
  have qc1 : (i : Int) + 1 ≤ c := by omega
  have qc2 : (i : Int) ≤ c := by omega
  have q7 : ((i : Int) + 1).toNat = i + 1 := by omega
  have EI : Hid (i + (n - (i + 1)) = n - 1) := by show _ = _; omega
  have z7 : ((n - 1 : Nat) : Int) ≤ n := by omega
  have z8 : ((n - 1 : Nat) : Int) < n := by omega
  have z9 : ((n - 1 : Nat) : Int) ≤ c := by omega
  have z10 : ¬ (c = n - 1) := by omega
  have z11 : ¬ (c = i) := by omega
  have EL : Hid (n - (n - 1) = 1) := by show _ = _; omega
  have HB : Hid (i < n ∧ n ≤ c) := ⟨hi, hnc⟩
  go_enter Tryz.func183, Tryz.ntmps183
  by_cases hlast : c = i + 1
  · have hnn : news = [] := by
      have h1 := HL2.out
      exact List.length_eq_zero_iff.1 (by omega)
    have hni : n = i + 1 := by omega
    have hcn : c = n := by omega
    subst hnn hcn
    have q6 : ¬ (i : Int) + 1 < c := by omega
    have q8 : (i : Int) + 1 = c := by omega
    have EI2 : Hid (i + 0 = c - 1) := by show _ = _; omega
    have HR0 : Hid (i + 0 ≤ c) := by show _ ≤ _; omega
    clear EI hlast hni hi hnc q7 qc qc1 qc2 z11
    go_upto_region 5 with fail
    go_region_held3 (fun w' => Keeps (· = b) w w') ((first | with_reducible exact (Grew.refl w).drew.keeps _ | with_reducible assumption | exact Keeps.trans (by with_reducible assumption) (setCells_keepsO b _ _ _)))
      ((refine wp_append_roomD rfl (.tmp 22) (.tmp 25) 24 rfl (some 26) rfl 26 i0 4 Tryz.underlying24 hinf hz1 b 0 i c rfl ⟨b, 0, none⟩ 0 0 [] rfl rfl (fun j u hj => by cases hj) (fun u hu => by cases hu) HR0.out (fun j hj => absurd hj (Nat.not_lt_zero _)) ?_))
    rw [Nat.zero_add, drew_setN]
    obtain ⟨hk, hth⟩ := HF.out _ rfl
    generalize (w.setCells b (i * 4) []).drew = w1 at *
    rw [← EI2.out, Nat.add_zero] at hk hth
    have hcl : ∀ ty, (Builtin.clear_ #[24] ty #[.slice (some ⟨b, i * 4, none⟩) (c - i) (c - i)]).run Tryz.prog w1 = .ok (.tuple #[]) (w1.setCells b (i * 4) NT.nil.cells4) := fun ty => by
      have := run_clear_node w1 ty b (i * 4) (c - i) hth
      rw [show c - i = 1 by have := EI2.out; have := HB.out; omega] at this ⊢
      exact this
    have HK := Lib.hid hk
    clear hk hth q6 q8 e1
    go_wp2_with fail
    go_ret
    refine ⟨?_, ?_⟩
    · rw [← EI2.out]; rfl
    · rw [← EI2.out, Nat.add_zero]; exact HK.out
  · clear hi hnc
    go_upto_region 5 with fail
    go_region_held3 (fun w' => Keeps (· = b) w w') ((first | with_reducible exact (Grew.refl w).drew.keeps _ | with_reducible assumption | exact Keeps.trans (by with_reducible assumption) (setCells_keepsO b _ _ _)))
      ((refine wp_append_roomD rfl (.tmp 22) (.tmp 25) 24 rfl (some 26) rfl 26 i0 4 Tryz.underlying24 hinf hz1 b 0 i c rfl ⟨b, (i + 1) * 4, none⟩ (n - (i + 1)) (c - (i + 1)) news rfl HL2.out (fun j u hj => HN.out j u hj) H1.out (by have := HB.out; omega) (fun j hj => HSP.out j hj) ?_))
    rw [Nat.zero_add, drew_setN, EI.out]
    obtain ⟨hk, hth⟩ := HF.out _ rfl
    generalize (w.setCells b (i * 4) news).drew = w1 at *
    have hcl : ∀ ty, (Builtin.clear_ #[24] ty #[.slice (some ⟨b, (n - 1) * 4, none⟩) (n - (n - 1)) (c - (n - 1))]).run Tryz.prog w1 = .ok (.tuple #[]) (w1.setCells b ((n - 1) * 4) NT.nil.cells4) := fun ty => by
      have := run_clear_node w1 ty b ((n - 1) * 4) (c - (n - 1)) hth
      rw [EL.out]
      exact this
    have HK := Lib.hid hk
    clear hk hth e1
    go_wp2_with fail
    go_ret
    exact ⟨rfl, HK.out⟩
end Go.Proofs.YtbhbekocmpmjfaaGreatDoor
/- tree.Put: the contract. -/
namespace Go.Proofs.YtbhbekocmpmjfaaGreatDoor
open Go Go.RowKit

def DelKid (ka0 : Option Addr) (ks : List NT) (i l h : Nat) (w : World) (e : Ending) (w' : World) : Prop :=
  ∃ ka kc, e = .returned (.slice ka (ks.length - 1) kc) ∧ Keeps (kidsBlk ka0 ks.length) w w' ∧ RowIn w' l h ka (ks.length - 1) kc 4 (fun i' j => ((ks.eraseIdx i).getD i' default).cell j)
set_option maxRecDepth 100000 in
theorem deleteKid_any (y : NT) (i l h : Nat) (w : World) (ho : y.Own w l h) (hr : y.Room w) (_hh : h ≤ w.heap.size) (hi : i < y.ks.length) (hlen : y.ks.length ≤ 1048576) :
    Calls Tryz.prog 183 #[.slice y.ka y.ks.length y.kc, .int .i64 i, .int .i64 (i + 1)] w (DelKid y.ka y.ks i l h w) := by
  have hk := (NT.In_iff.1 ho.1).2.2.1
  have hrm := (NT.Room_iff.1 hr).2.1
  have hcl := cellsOfNodes_len y.ks
  obtain ⟨b, o, hka, hb1, hb2, hcell⟩ := hk.2 (by omega)
  obtain ⟨rfl, cur, hcur, hsz⟩ := hrm.2 (by omega) b o hka
  have hcs : ∀ q, q < y.ks.length * 4 → w.cell? ⟨b, q, none⟩ = (cellsOfNodes y.ks)[q]? := fun q hq => by
    have h1 := hcell (q / 4) (by omega) (q % 4) (by omega)
    have h2 := cellsOfNodes_at y.ks (q / 4) (by omega) (q % 4) (by omega)
    rw [show 0 + q / 4 * 4 + q % 4 = q by omega] at h1
    rw [show q / 4 * 4 + q % 4 = q by omega] at h2
    rw [h1, h2]
  have e : (cellsOfNodes y.ks).take (i * 4) ++ (cellsOfNodes y.ks).drop ((i + 1) * 4) = cellsOfNodes (y.ks.eraseIdx i) := by
    rw [(cellsOfNodes_take y.ks i).1, (cellsOfNodes_take y.ks (i + 1)).2, ← cellsOfNodes_app, List.eraseIdx_eq_take_drop_succ]
  rw [hka]
  refine (deleteN_any b y.ks.length y.kc i (cellsOfNodes y.ks) w hi hk.1.2.1 hk.1.2.2 hlen hcl hcs (fun q => frozen_of hcur) (cellsOfNodes_one y.ks)).mono ?_
  rintro e' w' ⟨rfl, hkp, hq⟩
  rw [e] at hq
  have hl : (y.ks.eraseIdx i).length = y.ks.length - 1 := List.length_eraseIdx_of_lt hi
  have hz := hkp.size
  refine ⟨some ⟨b, 0, none⟩, y.kc, rfl, hkp.wider (fun k hk hkb => by have : k = b := hkb; subst this; exact ⟨by omega, 0, rfl⟩), ⟨⟨by simp, by have := hk.1.2.1; omega, hk.1.2.2⟩, fun _ => ⟨b, 0, rfl, hb1, hb2, fun i' hi' j hj => ?_⟩⟩⟩
  rw [Nat.zero_add, hq _ (by omega)]
  exact cellsOfNodes_at _ i' (by omega) j hj
/-- a node is written at an address -/
theorem nodeAt_put {w : World} {b o : Nat} {y x : NT} (h : NodeAt w b o y) : NodeAt (w.setCells b o x.cells4) b o x ∧ (∀ q, (q < o ∨ o + 4 ≤ q) → (w.setCells b o x.cells4).cell? ⟨b, q, none⟩ = w.cell? ⟨b, q, none⟩) := by
  obtain ⟨h0, h1, h2, h3⟩ := h
  have hs : ∀ j, j < x.cells4.length → (w.cell? ⟨b, o + j, none⟩).isSome = true := fun j hj => by
    rw [NT.cells4_len] at hj
    match j, hj with
    | 0, _ => rw [Nat.add_zero, h0]; rfl
    | 1, _ => rw [h1]; rfl
    | 2, _ => rw [h2]; rfl
    | 3, _ => rw [h3]; rfl
  have hin := fun q (h1 : o ≤ q) (h2 : q < o + 4) => cell_setN_in (b := b) (o := o) (vs := x.cells4) (w := w) hs h1 h2
  refine ⟨⟨?_, ?_, ?_, ?_⟩, fun q hq => cell_setN_out (by rw [NT.cells4_len]; exact hq)⟩
  · rw [hin o (by omega) (by omega), Nat.sub_self]; rfl
  · rw [hin (o + 1) (by omega) (by omega), show o + 1 - o = 1 by omega]; rfl
  · rw [hin (o + 2) (by omega) (by omega), show o + 2 - o = 2 by omega]; rfl
  · rw [hin (o + 3) (by omega) (by omega), show o + 3 - o = 3 by omega]; rfl
theorem nodeAt_there {w : World} {b o : Nat} {y : NT} (h : NodeAt w b o y) (hf : ∀ j, w.frozen? ⟨b, j, none⟩ = false) : w.there b o 4 := fun j hj => by
  obtain ⟨h0, h1, h2, h3⟩ := h
  refine ⟨?_, hf _⟩
  match j, hj with
  | 0, _ => rw [Nat.add_zero, h0]; rfl
  | 1, _ => rw [h1]; rfl
  | 2, _ => rw [h2]; rfl
  | 3, _ => rw [h3]; rfl
set_option maxRecDepth 100000 in
set_option maxHeartbeats 2000000 in
theorem put1_any (m y : NT) (bm l h b o B : Nat) (w : World) (hm : NodeAt w bm 0 m) (hok : m.Ok w) (hb : m.er.bulk ≤ 1048576) (hB : B ≤ w.heap.size) (hn : NodeAt w b o y) (hf : ∀ j, w.frozen? ⟨b, j, none⟩ = false) (hbs : b < w.heap.size) :
    Calls Tryz.prog 216 #[.pointer (some ⟨b, o, none⟩), .pointer (some ⟨bm, 0, none⟩)] w (HowEnds (fun _ => .inl m.er) B y l h b o w) := by
  have CP := Lib.hid (copy_any m w hok hb)
  obtain ⟨m0, m1, m2, m3⟩ := hm
  rw [Nat.zero_add] at m1 m2 m3
  unfold NT.val at CP
  go_enter Tryz.func216, Tryz.ntmps216
  go_wp2_with fail
  refine CP.out.mono ?_
  rintro e w2 ⟨x, rfl, g2, hx, hxe⟩
  have hn2 := NodeAt.grew hn g2 hbs
  have ht := nodeAt_there hn2 (fun j => (g2.frozen (p := ⟨b, j, none⟩) hbs).trans (hf j))
  have HQ := Lib.hid (nodeAt_put (x := x) hn2)
  have HK := Lib.hid (setCells_keepsO b x.cells4 o w2)
  have HI := Lib.hid hx.1
  have HC := Lib.hid (fun q => g2.cell (p := ⟨b, q, none⟩) hbs)
  have G2 := Lib.hid g2
  clear m0 m1 m2 m3 hn hn2 hx hok CP
  go_wp2_with (refine wpList_store_mid rfl 26 (.tmp 7) (.tmp 6) rfl b o x.cells4.toArray rfl rfl ht infoNode4 x.cells4_all ?_; generalize hW : w2.setCells _ _ _ = w3; have q1 : NodeAt w3 b o x ∧ _ := hW ▸ HQ.out; have k3 : Keeps (· = b) w2 w3 := hW ▸ HK.out; clear hW HQ HK)
  go_ret
  have z2 := G2.out.size
  have z3 := k3.size
  refine ⟨(G2.out.keeps _).trans (k3.wider (fun k _ hk => Or.inl hk)), .inl ⟨x, rfl, q1.1, ?_, fun q hq => ?_, ?_⟩⟩
  · exact (HI.out.agree (k3.agree (Nat.le_refl _) (fun j h1 h2 => by show ¬ j = _; omega))).mono (by omega) z3
  · rw [q1.2 q hq]; exact HC.out q
  · show _ = _; rw [hxe.out]
def putTr (t : T) (p : List Int) (m : T) : T × Int := changedT t p (fun _ => .inl m)
/-- a result's node and an error are stored, and told -/
theorem retTE_box {w w1 w2 w3 : World} {x : NT} {r : T × Int} {bx : Nat} (hbx : w.heap.size ≤ bx) (hb1 : bx < w1.heap.size) (g1 : Grew w w1) (g2 : Grew w1 w2) (hx : x.In w2 w1.heap.size w2.heap.size) (hxe : Hid (x.er = r.1)) (k3 : Keeps (· = bx) w2 w3) : RetTE r w (.returned (.tuple #[x.val, .int .i64 r.2])) w3 := by
  have z2 := g2.size
  have z1 := g1.size
  exact ⟨x, rfl, (g1.trans g2).keep k3 (fun j hj => by rw [hj]; exact hbx), (hx.agree (k3.agree (Nat.le_refl _) (fun j h1 h2 => by show ¬ j = _; omega))).mono z1 k3.size, hxe⟩
set_option maxRecDepth 100000 in
set_option maxHeartbeats 4000000 in
theorem treePut_any (n m : NT) (pa : Option Addr) (pc : Nat) (p : List Int) (w : World) (hn : n.Ok w) (hb : n.er.bulk ≤ 1048576) (hm : m.Ok w) (hmb : m.er.bulk ≤ 1048576) (hp : IntsIn w 0 w.heap.size pa pc p) (hl : p.length ≤ 1048576) :
    Calls Tryz.prog 187 #[n.val, .slice pa p.length pc, m.val] w (RetTE (putTr n.er p m.er) w) := by
  have CH := Lib.hid (fun (w1 : World) (hg : Grew w w1) (hbx : NodeAt w1 (w.heap.size + 1) 0 m) (hz : w.heap.size + 1 < w1.heap.size) => changed_any n pa pc p 216 #[.pointer (some ⟨w.heap.size + 1, 0, none⟩)] (fun _ => .inl m.er) w1 (NT.Ok.grew hn hg) hb ((hp.grew hg (Nat.le_refl _)).mono (Nat.le_refl _) hg.size) hl (fun _ _ => rfl)
    (fun y l h b o w2 g2 h1 h2 h3 h4 h5 _ h6 h7 h8 h9 h10 h11 => put1_any m y (w.heap.size + 1) l h b o (w1.heap.size + 2) w2 (NodeAt.grew hbx g2 hz) (NT.Ok.grew hm (hg.trans g2)) hmb (by omega) h7 h8 h10))
  rw [show putTr n.er p m.er = changedT n.er p (fun _ => .inl m.er) from rfl]
  generalize changedT n.er p (fun _ => .inl m.er) = res at *
  unfold NT.val at *
  clear hn hm hp
  go_enter Tryz.func187, Tryz.ntmps187
  go_upto_region 1 with fail
  generalize hW : ((w.alloc _).alloc _).alloc _ = w1
  obtain ⟨g1, rN, rM, _, t6, z1⟩ := boxes3 w n.cells4 m.cells4 NT.nil.cells4 _ _ _ w1 hW
  clear hW
  have CH1 := Lib.hid (CH.out w1 g1 (NT.cells4_at.1 rM) (by omega))
  obtain ⟨m0, m1, m2, m3⟩ := NT.cells4_at.1 rN
  rw [Nat.zero_add] at m1 m2 m3
  have G1 := Lib.hid g1
  have Z1 := Lib.hid z1
  have T6 := Lib.hid t6
  clear rN rM g1 z1 t6 CH
  go_wp2_with fail
  refine CH1.out.mono ?_
  rintro e w2 ⟨x, rfl, g2, hx, hxe⟩
  have z1 := Z1.out
  have z2 := g2.size
  have t2 : w2.there (w.heap.size + 2) 0 4 := there_grew T6.out g2 (by omega)
  have HP := Lib.hid (rangeAt_put (cs := x.cells4) t2)
  have HK := Lib.hid (setCells_keepsO (w.heap.size + 2) x.cells4 0 w2)
  have FIN := Lib.hid (fun w3 (k3 : Keeps (· = w.heap.size + 2) w2 w3) => retTE_box (r := res) (bx := w.heap.size + 2) (by omega) (by omega) G1.out g2 hx hxe k3)
  clear m0 m1 m2 m3 hx hxe g2 z1 z2
  go_wp2_with (refine wpList_store_mid rfl 26 (.tmp 6) (.tmp 12) rfl (w.heap.size + 2) 0 x.cells4.toArray rfl rfl t2 infoNode4 (NT.cells4_all _) ?_; generalize hF : w2.setCells _ _ _ = w3; have r3 : w3.rangeAt (w.heap.size + 2) 0 x.cells4 := hF ▸ HP.out; have k3 : Keeps (· = w.heap.size + 2) w2 w3 := hF ▸ HK.out; clear hF HP HK)
  exact bodyPost_ret (v := .tuple #[x.val, .int .i64 res.2]) (results_cellE Tryz.results187 _ w3 (w.heap.size + 2) 0 x.cells4 _ _ rfl rfl r3 Tryz.underlying26 rfl infoNode4) rfl (FIN.out w3 k3)
end Go.Proofs.YtbhbekocmpmjfaaGreatDoor
