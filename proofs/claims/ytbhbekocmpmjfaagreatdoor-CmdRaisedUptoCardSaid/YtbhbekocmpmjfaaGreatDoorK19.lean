/- glyph.asked, glyph.Insert, glyph.Remove: the contracts. -/
import Derived.Test.YtbhbekocmpmjfaaGreatDoorK18
import Derived.Test.YtbhbekocmpmjfaaGreatDoorK05
import Derived.Test.YtbhbekocmpmjfaaGreatDoorK12
import Derived.Deep.RegionHeld3
import Derived.Deep.DeepCutAuto
namespace Go.Proofs.YtbhbekocmpmjfaaGreatDoor
open Go Go.RowKit

def askedR (ts : List Int) (i : Int) (ss : List Int) : Int := if checkRs ts ≠ 0 ∨ checkRs ss ≠ 0 then 4 else if i < 0 ∨ (ts.length : Int) < i then 8 else 0
theorem checkRs_or (ts : List Int) : checkRs ts = 0 ∨ checkRs ts = 4 := by
  unfold checkRs
  split
  · exact .inl rfl
  · exact .inr rfl
set_option maxRecDepth 100000 in
set_option maxHeartbeats 1000000 in
theorem asked_any (ta sa : Option Addr) (tc sc : Nat) (ts ss : List Int) (i : Int) (w : World) (ht : RunesIn w 0 w.heap.size ta tc ts) (hs : RunesIn w 0 w.heap.size sa sc ss) (hl : ts.length ≤ 1048576) (hl2 : ss.length ≤ 1048576) :
    Calls Tryz.prog 221 #[.slice ta ts.length tc, .int .i64 i, .slice sa ss.length sc] w fun e w' => e = .returned (.int .i64 (askedR ts i ss)) ∧ Grew w w' := by
  have C1 := Lib.hid (check03_any ts ta tc w 0 w.heap.size ht (Nat.le_refl _) hl)
  have C2 := Lib.hid (fun w1 (g : Grew w w1) => check03_any ss sa sc w1 0 w.heap.size (hs.grew g (Nat.le_refl _)) g.size hl2)
  have HA : Hid (askedR ts i ss = if checkRs ts ≠ 0 ∨ checkRs ss ≠ 0 then 4 else if i < 0 ∨ (ts.length : Int) < i then 8 else 0) := rfl
  have H1 := Lib.hid (checkRs_or ts)
  have H2 := Lib.hid (checkRs_or ss)
  generalize askedR ts i ss = r at *
  generalize checkRs ts = c1 at *
  generalize checkRs ss = c2 at *
  clear ht hs
  go_enter Tryz.func221, Tryz.ntmps221
  go_wp2_with fail
  refine C1.out.mono ?_
  rintro e w1 ⟨rfl, g1⟩
  rcases H1.out with h1 | h1
  · subst h1
    go_wp2_with fail
    refine (C2.out w1 g1).mono ?_
    rintro e w2 ⟨rfl, g2⟩
    have G2 := Lib.hid (g1.trans g2)
    rcases H2.out with h2 | h2
    · subst h2
      by_cases q1 : i < 0
      · have HN : Hid (r = 8) := by show _ = _; rw [HA.out]; simp [q1]
        have t1 : decide (i < 0) = true := by simpa using q1
        go_wp2_with fail
        go_ret
        exact ⟨ret_int (by rw [HN.out]), G2.out⟩
      · have t1 : decide (i < 0) = false := by simpa using q1
        by_cases q2 : (ts.length : Int) < i
        · have HN : Hid (r = 8) := by show _ = _; rw [HA.out]; simp [q2]
          have t2 : decide ((ts.length : Int) < i) = true := by simpa using q2
          go_wp2_with fail
          go_ret
          exact ⟨ret_int (by rw [HN.out]), G2.out⟩
        · have HN : Hid (r = 0) := by show _ = _; rw [HA.out]; simp [q1, q2]
          have t2 : decide ((ts.length : Int) < i) = false := by simpa using q2
          go_wp2_with fail
          go_ret
          exact ⟨ret_int (by rw [HN.out]), G2.out⟩
    · subst h2
      have HN : Hid (r = 4) := by show _ = _; rw [HA.out]; simp
      go_wp2_with fail
      go_ret
      exact ⟨ret_int (by rw [HN.out]), G2.out⟩
  · subst h1
    have HN : Hid (r = 4) := by show _ = _; rw [HA.out]; simp
    go_wp2_with fail
    go_ret
    exact ⟨ret_int (by rw [HN.out]), g1⟩

/-- a text in new memory, and what is said with it -/
def RetTx (r : List Int × Int) (w : World) (e : Ending) (w' : World) : Prop := ∃ q : PN, e = .returned (.tuple #[.slice q.a q.l.length q.c, .int .i64 r.2]) ∧ Grew w w' ∧ RunesIn w' w.heap.size w'.heap.size q.a q.c q.l ∧ Hid (q.l = r.1)
theorem retTx_no {r : List Int × Int} {k : Int} {w w' : World} (hg : Grew w w') (h : Hid (r = ([], k))) : RetTx r w (.returned (.tuple #[.slice none 0 0, .int .i64 k])) w' := by
  rw [h.out]
  exact ⟨PN.nil, rfl, hg, runesIn_nil, rfl⟩
/-- a text in new memory -/
def RetRs (l : List Int) (w : World) (e : Ending) (w' : World) : Prop := ∃ q : PN, e = .returned (.slice q.a q.l.length q.c) ∧ Grew w w' ∧ RunesIn w' w.heap.size w'.heap.size q.a q.c q.l ∧ Hid (q.l = l)
theorem retTx_some {r : List Int × Int} {l : List Int} {q : PN} {w w1 w' : World} (g1 : Grew w w1) (g2 : Grew w1 w') (hq : RunesIn w' w1.heap.size w'.heap.size q.a q.c q.l) (he : Hid (q.l = l)) (h : Hid (r = (l, 0))) : RetTx r w (.returned (.tuple #[.slice q.a q.l.length q.c, .int .i64 0])) w' := by
  rw [h.out]
  exact ⟨q, rfl, g1.trans g2, hq.mono g1.size (Nat.le_refl _), he⟩
theorem concatRs_any (ls : List PN) (n : Nat) (cs : Array Value) (w : World) (t : TypeId) (hnn : n = ls.length) (hcs : cs = (ls.map PN.val).toArray) (hn : ls.length ≤ 4) (h : ∀ p ∈ ls, RunesIn w 0 w.heap.size p.a p.c p.l ∧ p.l.length ≤ 1048576) :
    Calls Tryz.prog 222 #[.slice (some ⟨w.heap.size, 0, none⟩) n n] (w.alloc (.cells cs t)).drew (RetRs (flatR ls) w) := by
  subst hcs hnn
  have g : Grew w (w.alloc (.cells (ls.map PN.val).toArray t)).drew := (Grew.alloc1 _ _).drew
  have hr : RowsR (w.alloc (.cells (ls.map PN.val).toArray t)) w.heap.size (w.heap.size + 1) (some ⟨w.heap.size, 0, none⟩) ls.length ls :=
    rowIn_new (n := ls.length) (cp := ls.length) (k := 1) (Nat.le_refl _) (by unfold maxLen; omega) (fun i hi j hj => by
      obtain rfl : j = 0 := by omega
      simp [List.getD, List.getElem?_eq_getElem hi, PN.val])
  have hr2 : RowsR (w.alloc (.cells (ls.map PN.val).toArray t)).drew 0 (w.alloc (.cells (ls.map PN.val).toArray t)).drew.heap.size (some ⟨w.heap.size, 0, none⟩) ls.length ls :=
    (RowIn.agree hr ((Grew.refl _).drew.agree (by simp))).mono (Nat.zero_le _) (by simp)
  have hsum : ∀ (l : List PN), (∀ p ∈ l, p.l.length ≤ 1048576) → sumR l ≤ l.length * 1048576 := by
    intro l
    induction l with
    | nil => intro _; simp [sumR]
    | cons x r ih =>
      intro hx
      have h1 := ih (fun p hp => hx p (List.mem_cons_of_mem _ hp))
      have h2 := hx x (List.mem_cons_self ..)
      have h3 : sumR (x :: r) = x.l.length + sumR r := by simp [sumR]
      have h4 : (x :: r).length = r.length + 1 := rfl
      omega
  have C := concatR_any (some ⟨w.heap.size, 0, none⟩) ls.length ls _ hr2 (fun p hp => ((h p hp).1.agree (g.agree (Nat.le_refl _))).mono (Nat.le_refl _) g.size) (by omega) (by have := hsum ls (fun p hp => (h p hp).2); omega)
  refine C.mono ?_
  rintro e w' ⟨v, rfl, g2, hv⟩
  have hb : ∀ x ∈ flatR ls, -2147483648 ≤ x ∧ x ≤ 2147483647 := fun x hx => by
    obtain ⟨p, hp, hx⟩ := List.mem_flatMap.1 hx
    exact (h p hp).1.2 x hx
  obtain ⟨a, c, rfl, hi⟩ := runesIn_owned hv hb
  exact ⟨⟨a, c, flatR ls⟩, rfl, g.trans g2, hi.mono g.size (Nat.le_refl _), rfl⟩
theorem RunesIn.take {w : World} {lo hi : Nat} {a : Option Addr} {c : Nat} {ts : List Int} (h : RunesIn w lo hi a c ts) {k : Nat} (hk : k ≤ ts.length) : RunesIn w lo hi a c (ts.take k) := by
  have hl : (ts.take k).length = k := List.length_take_of_le hk
  have h2 := h.1.1.2.1
  refine ⟨⟨⟨fun e => ?_, ?_, h.1.1.2.2⟩, fun hn => ?_⟩, fun r hr => h.2 r (List.mem_of_mem_take hr)⟩
  · have := h.1.1.1 e
    omega
  · omega
  · obtain ⟨b, o, e, h1, h2, hc⟩ := h.1.2 (by omega)
    refine ⟨b, o, e, h1, h2, fun i hi j hj => ?_⟩
    have := hc i (by omega) j hj
    rw [this]
    simp [List.getD, show i < k by omega]
theorem RunesIn.drop {w : World} {lo hi b o c : Nat} {x} {l : List Int} (h : RunesIn w lo hi (some ⟨b, o, x⟩) c l) (k : Nat) (hk : k ≤ c) : RunesIn w lo hi (some (Addr.add ⟨b, o, x⟩ k)) (c - k) (l.drop k) := by
  have h1 := h.1.1.2.1
  have h2 := h.1.1.2.2
  refine ⟨⟨⟨fun e => by simp at e, by simp; omega, by omega⟩, fun hn => ?_⟩, fun r hr => h.2 r (List.mem_of_mem_drop hr)⟩
  have hn2 : 0 < l.length := by simp at hn; omega
  obtain ⟨b2, o2, e, h1, h2, hc⟩ := h.1.2 hn2
  injection e with e
  injection e with e1 e2 e3
  subst e3
  refine ⟨b, o + k, by simp [Addr.add], by omega, by omega, fun i hi j hj => ?_⟩
  obtain rfl : j = 0 := by omega
  have hi2 : k + i < l.length := by simp at hi; omega
  have := hc (k + i) hi2 0 (by omega)
  rw [← e1, ← e2] at this
  rw [show o + k + i * 1 + 0 = o + (k + i) * 1 + 0 by omega, this]
  simp [List.getD, List.getElem?_drop]
theorem runesIn_empty {w : World} {lo hi b o : Nat} {x} : RunesIn w lo hi (some ⟨b, o, x⟩) 0 [] := ⟨⟨⟨(fun e => by cases e), Nat.le_refl _, Nat.zero_le _⟩, fun h => absurd h (Nat.lt_irrefl _)⟩, by simp⟩

def insertR (ts : List Int) (i : Int) (ss : List Int) : List Int × Int := if askedR ts i ss = 0 then (ts.take i.toNat ++ ss ++ ts.drop i.toNat, 0) else ([], askedR ts i ss)
theorem asked_zero {ts ss : List Int} {i : Int} (h : askedR ts i ss = 0) : 0 ≤ i ∧ i ≤ ts.length := by
  unfold askedR at h
  split at h
  · cases h
  · split at h
    · cases h
    · omega
set_option maxRecDepth 100000 in
set_option maxHeartbeats 1000000 in
theorem glyphInsert_any (ta sa : Option Addr) (tc sc : Nat) (ts ss : List Int) (i : Int) (w : World) (ht : RunesIn w 0 w.heap.size ta tc ts) (hs : RunesIn w 0 w.heap.size sa sc ss) (hl : ts.length ≤ 1048576) (hl2 : ss.length ≤ 1048576) :
    Calls Tryz.prog 189 #[.slice ta ts.length tc, .int .i64 i, .slice sa ss.length sc] w (RetTx (insertR ts i ss) w) := by
  have CA := Lib.hid (asked_any ta sa tc sc ts ss i w ht hs hl hl2)
  have HR : Hid (insertR ts i ss = if askedR ts i ss = 0 then (ts.take i.toNat ++ ss ++ ts.drop i.toNat, 0) else ([], askedR ts i ss)) := rfl
  have HZ := Lib.hid (fun h => asked_zero (ts := ts) (ss := ss) (i := i) h)
  generalize insertR ts i ss = res at *
  generalize askedR ts i ss = k at *
  have HT := Lib.hid ht
  have HS := Lib.hid hs
  clear ht hs
  by_cases hk : k = 0
  · subst hk
    obtain ⟨h0, h1⟩ := HZ.out rfl
    obtain ⟨m, rfl⟩ : ∃ m : Nat, i = m := ⟨i.toNat, by omega⟩
    have hm : m ≤ ts.length := by omega
    have HN : Hid (res = (ts.take m ++ ss ++ ts.drop m, 0)) := by show _ = _; rw [HR.out, if_pos rfl]; rfl
    clear HZ HR h0
    go_enter Tryz.func189, Tryz.ntmps189
    go_wp2_with fail
    refine CA.out.mono ?_
    rintro e w1 ⟨rfl, g1⟩
    have G1 := Lib.hid g1
    clear CA
    have T1 := Lib.hid ((HT.out.grew g1 (Nat.le_refl _)).mono (Nat.le_refl _) g1.size)
    have S1 := Lib.hid ((HS.out.grew g1 (Nat.le_refl _)).mono (Nat.le_refl _) g1.size)
    clear HT HS g1
    have hcap := T1.out.1.1.2.1
    have q0 : (0 : Int) ≤ (m : Int) := by omega
    have q2 : (ts.length : Int) ≤ tc := by omega
    have q3 : (m : Int) ≤ tc := by omega
    have g20 : Grew w1 w1.drew := (Grew.refl _).drew
    cases ta with
    | none =>
      obtain ⟨hz1, hz2⟩ := T1.out.1.1.1 rfl
      have e1 : m = 0 := by omega
      have hts : ts = [] := List.length_eq_zero_iff.1 hz1
      subst hts e1 hz2
      have CC := Lib.hid (concatRs_any [⟨none, 0, []⟩, ⟨sa, sc, ss⟩, ⟨none, 0, []⟩] 3 #[.slice none 0 0, .slice sa ss.length sc, .slice none 0 0] w1 23 rfl rfl (by simp) (fun p hp => by
        rcases List.mem_cons.1 hp with rfl | hp
        · exact ⟨runesIn_nil, by simp⟩
        · rcases List.mem_cons.1 hp with rfl | hp
          · exact ⟨S1.out, hl2⟩
          · obtain rfl := List.mem_singleton.1 hp
            exact ⟨runesIn_nil, by simp⟩))
      clear hcap q0 q2 q3 h1 hm hl
      go_upto_region 4 with fail
      go_region_held3 (fun w' => Grew w1 w') ((first | assumption | exact g20 | exact Grew.trans (by assumption) (by assumption) | exact Grew.trans (by assumption) (Grew.alloc1 _ _))) ((first | (go_loud (go_at_call 222; refine CC.out.mono ?_; rintro e w7 ⟨q, rfl, g7, hq, he⟩))))
      go_wp2_with fail
      go_ret2
      have HE : Hid (q.l = ([] : List Int).take 0 ++ ss ++ ([] : List Int).drop 0) := by show _ = _; rw [he.out]; simp [flatR]
      exact retTx_some G1.out g7 hq HE HN
    | some ad =>
      obtain ⟨ab, ao, ax⟩ := ad
      have hmc : m ≤ tc := by omega
      have TT := Lib.hid (RunesIn.take T1.out hm)
      have HL1 : Hid (m = (ts.take m).length) := by show _ = _; rw [List.length_take_of_le hm]
      have HL2 : Hid (ts.length - m = (ts.drop m).length) := by show _ = _; rw [List.length_drop]
      by_cases hc : tc = m
      · have hd : ts.drop m = [] := by rw [List.drop_eq_nil_iff]; omega
        have CC := Lib.hid (concatRs_any [⟨some ⟨ab, ao, ax⟩, tc, ts.take m⟩, ⟨sa, sc, ss⟩, ⟨some ⟨ab, ao, ax⟩, 0, []⟩] 3 #[.slice (some ⟨ab, ao, ax⟩) m tc, .slice sa ss.length sc, .slice (some ⟨ab, ao, ax⟩) (ts.length - m) 0] w1 23 rfl (by simp [PN.val]; omega) (by simp) (fun p hp => by
          rcases List.mem_cons.1 hp with rfl | hp
          · exact ⟨TT.out, by have := HL1.out; show (ts.take m).length ≤ _; omega⟩
          · rcases List.mem_cons.1 hp with rfl | hp
            · exact ⟨S1.out, hl2⟩
            · obtain rfl := List.mem_singleton.1 hp
              exact ⟨runesIn_empty, by simp⟩))
        have HD := Lib.hid hd
        subst hc
        clear hcap q3 hm hd
        have q7 : (tc : Int) ≤ tc := Int.le_refl _
        go_upto_region 4 with fail
        go_region_held3 (fun w' => Grew w1 w') ((first | assumption | exact g20 | exact Grew.trans (by assumption) (by assumption) | exact Grew.trans (by assumption) (Grew.alloc1 _ _))) ((first | (go_loud (go_at_call 222; refine CC.out.mono ?_; rintro e w7 ⟨q, rfl, g7, hq, he⟩))))
        go_wp2_with fail
        go_ret2
        have HE : Hid (q.l = ts.take tc ++ ss ++ ts.drop tc) := by show _ = _; rw [he.out, HD.out]; simp [flatR]
        exact retTx_some G1.out g7 hq HE HN
      · have q4 : ¬ tc = m := hc
        have q5 : (m : Int) < tc := by omega
        have CC := Lib.hid (concatRs_any [⟨some ⟨ab, ao, ax⟩, tc, ts.take m⟩, ⟨sa, sc, ss⟩, ⟨some (Addr.add ⟨ab, ao, ax⟩ m), tc - m, ts.drop m⟩] 3 #[.slice (some ⟨ab, ao, ax⟩) m tc, .slice sa ss.length sc, .slice (some (Addr.add ⟨ab, ao, ax⟩ m)) (ts.length - m) (tc - m)] w1 23 rfl (by simp [PN.val]; omega) (by simp) (fun p hp => by
          rcases List.mem_cons.1 hp with rfl | hp
          · exact ⟨TT.out, by have := HL1.out; show (ts.take m).length ≤ _; omega⟩
          · rcases List.mem_cons.1 hp with rfl | hp
            · exact ⟨S1.out, hl2⟩
            · obtain rfl := List.mem_singleton.1 hp
              exact ⟨RunesIn.drop T1.out m hmc, by have := HL2.out; show (ts.drop m).length ≤ _; omega⟩))
        clear hcap hc hm
        go_upto_region 4 with fail
        go_region_held3 (fun w' => Grew w1 w') ((first | assumption | exact g20 | exact Grew.trans (by assumption) (by assumption) | exact Grew.trans (by assumption) (Grew.alloc1 _ _))) ((first | (go_loud (go_at_call 222; refine CC.out.mono ?_; rintro e w7 ⟨q, rfl, g7, hq, he⟩))))
        go_wp2_with fail
        go_ret2
        have HE : Hid (q.l = ts.take m ++ ss ++ ts.drop m) := by show _ = _; rw [he.out]; simp [flatR]
        exact retTx_some G1.out g7 hq HE HN
  · have HN : Hid (res = ([], k)) := by show _ = _; rw [HR.out, if_neg hk]
    have t1 : (k == 0) = false := by simpa using hk
    have t2 : (k != 0) = true := by simpa using hk
    clear HR HZ hk
    go_enter Tryz.func189, Tryz.ntmps189
    go_wp2_with fail
    refine CA.out.mono ?_
    rintro e w1 ⟨rfl, g1⟩
    go_wp2_with fail
    go_ret2
    exact retTx_no g1 HN

def removeR (ts : List Int) (i : Int) (ss : List Int) : List Int × Int := if askedR ts i ss = 0 then (if (ts.drop i.toNat).take (min (i.toNat + ss.length) ts.length - i.toNat) = ss then (ts.take i.toNat ++ ts.drop (min (i.toNat + ss.length) ts.length), 0) else ([], 9)) else ([], askedR ts i ss)
set_option maxRecDepth 100000 in
set_option maxHeartbeats 1000000 in
theorem glyphRemove_any (ta sa : Option Addr) (tc sc : Nat) (ts ss : List Int) (i : Int) (w : World) (ht : RunesIn w 0 w.heap.size ta tc ts) (hs : RunesIn w 0 w.heap.size sa sc ss) (hl : ts.length ≤ 1048576) (hl2 : ss.length ≤ 1048576) :
    Calls Tryz.prog 190 #[.slice ta ts.length tc, .int .i64 i, .slice sa ss.length sc] w (RetTx (removeR ts i ss) w) := by
  have CA := Lib.hid (asked_any ta sa tc sc ts ss i w ht hs hl hl2)
  have HR : Hid (removeR ts i ss = if askedR ts i ss = 0 then (if (ts.drop i.toNat).take (min (i.toNat + ss.length) ts.length - i.toNat) = ss then (ts.take i.toNat ++ ts.drop (min (i.toNat + ss.length) ts.length), 0) else ([], 9)) else ([], askedR ts i ss)) := rfl
  have HZ := Lib.hid (fun h => asked_zero (ts := ts) (ss := ss) (i := i) h)
  generalize removeR ts i ss = res at *
  generalize askedR ts i ss = k at *
  have HT := Lib.hid ht
  have HS := Lib.hid hs
  clear ht hs
  by_cases hk : k = 0
  · subst hk
    obtain ⟨h0, h1⟩ := HZ.out rfl
    obtain ⟨m, rfl⟩ : ∃ m : Nat, i = m := ⟨i.toNat, by omega⟩
    have hm : m ≤ ts.length := by omega
    obtain ⟨e, he⟩ : ∃ e, min (m + ss.length) ts.length = e := ⟨_, rfl⟩
    have HX : Hid (res = if (ts.drop m).take (e - m) = ss then (ts.take m ++ ts.drop e, 0) else ([], 9)) := by show _ = _; rw [HR.out, if_pos rfl, ← he]; rfl
    have he1 : m ≤ e := by omega
    have he2 : e ≤ ts.length := by omega
    have hmin : min ((m : Int) + ss.length) ts.length = (e : Int) := by omega
    have hw : IntKind.i64.wrap ((m : Int) + ss.length) = (m : Int) + ss.length := by rw [IntKind.wrap_i64]; omega
    clear HZ HR h0 he
    go_enter Tryz.func190, Tryz.ntmps190
    go_wp2_with fail
    refine CA.out.mono ?_
    rintro e w1 ⟨rfl, g1⟩
    have G1 := Lib.hid g1
    clear CA
    have T1 := Lib.hid ((HT.out.grew g1 (Nat.le_refl _)).mono (Nat.le_refl _) g1.size)
    have S1 := Lib.hid ((HS.out.grew g1 (Nat.le_refl _)).mono (Nat.le_refl _) g1.size)
    clear HT HS g1
    have hcap := T1.out.1.1.2.1
    go_upto_region 5 with fail
    clear hmin hw
    cases ta with
    | none =>
      obtain ⟨hz1, hz2⟩ := T1.out.1.1.1 rfl
      have e1 : m = 0 := by omega
      have e2 : e = 0 := by omega
      have hts : ts = [] := List.length_eq_zero_iff.1 hz1
      subst hts e1 e2 hz2
      have HLE : Hid (([] : List Int).length = 0) := rfl
      have HLD : Hid ((([] : List Int).drop 0).take (0 - 0) = []) := rfl
      clear hcap h1 hm he1 he2
      have EQ := Lib.hid (equalRunes_any none sa 0 sc [] ss w1 0 w1.heap.size 0 w1.heap.size runesIn_nil S1.out (by have := HLE.out; omega) hl2 (Nat.le_refl _) (Nat.le_refl _))
      rw [HLE.out] at EQ
      by_cases hd : [] = ss
      · have HN : Hid (res = (([] : List Int).take 0 ++ ([] : List Int).drop 0, 0)) := by show _ = _; rw [HX.out, if_pos (HLD.out.trans hd)]
        rw [decide_eq_true hd] at EQ
        clear HX hd
        go_wp2_with fail
        refine EQ.out.mono ?_
        rintro e9 w2 ⟨rfl, g2⟩
        have G2 := Lib.hid (G1.out.trans g2)
        have T2 := Lib.hid ((T1.out.grew g2 (Nat.le_refl _)).mono (Nat.le_refl _) g2.size)
        clear T1 S1 EQ g2
        have g20 : Grew w2 w2.drew := (Grew.refl _).drew
        have CC := Lib.hid (concatRs_any [⟨none, 0, []⟩, ⟨none, 0, []⟩] 2 #[.slice none 0 0, .slice none 0 0] w2 23 rfl rfl (by simp) (fun p hp => by
          rcases List.mem_cons.1 hp with rfl | hp
          · exact ⟨runesIn_nil, by simp⟩
          · obtain rfl := List.mem_singleton.1 hp
            exact ⟨runesIn_nil, by simp⟩))
        clear hl
        go_upto_region 7 with fail
        go_region_held3 (fun w' => Grew w2 w') ((first | assumption | exact g20 | exact Grew.trans (by assumption) (by assumption) | exact Grew.trans (by assumption) (Grew.alloc1 _ _))) ((first | (go_loud (go_at_call 222; refine CC.out.mono ?_; rintro e9 w7 ⟨q, rfl, g7, hq, hqe⟩))))
        go_wp2_with fail
        go_ret2
        have HE : Hid (q.l = ([] : List Int).take 0 ++ ([] : List Int).drop 0) := by show _ = _; rw [hqe.out]; simp [flatR]
        exact retTx_some G2.out g7 hq HE HN
      · have HN : Hid (res = ([], 9)) := by show _ = _; rw [HX.out, if_neg (fun h => hd (HLD.out.symm.trans h))]
        rw [decide_eq_false hd] at EQ
        clear HX hd
        go_wp2_with fail
        refine EQ.out.mono ?_
        rintro e9 w2 ⟨rfl, g2⟩
        have G2 := Lib.hid (G1.out.trans g2)
        clear EQ g2
        go_wp2_with fail
        go_ret2
        exact retTx_no G2.out HN
    | some ad =>
      obtain ⟨ab, ao, ax⟩ := ad
      have q0 : (0 : Int) ≤ (m : Int) := by omega
      have q1 : (m : Int) ≤ (e : Int) := by omega
      have q2 : (e : Int) ≤ ts.length := by omega
      have q3 : (ts.length : Int) ≤ tc := by omega
      have q4 : (m : Int) ≤ tc := by omega
      have q5 : (e : Int) ≤ tc := by omega
      have q6 : (0 : Int) ≤ (e : Int) := by omega
      by_cases hc : tc = m
      · obtain rfl : e = m := by omega
        subst hc
        have HLE : Hid (([] : List Int).length = 0) := rfl
        have HLD : Hid ((ts.drop tc).take (tc - tc) = []) := by show _ = _; simp
        have q7 : (tc : Int) ≤ tc := Int.le_refl _
        have EQ := Lib.hid (equalRunes_any (some ⟨ab, ao, ax⟩) sa 0 sc [] ss w1 0 w1.heap.size 0 w1.heap.size runesIn_empty S1.out (by have := HLE.out; omega) hl2 (Nat.le_refl _) (Nat.le_refl _))
        rw [HLE.out] at EQ
        by_cases hd : [] = ss
        · have HN : Hid (res = (ts.take tc ++ ts.drop tc, 0)) := by show _ = _; rw [HX.out, if_pos (HLD.out.trans hd)]
          rw [decide_eq_true hd] at EQ
          clear HX hd
          go_wp2_with fail
          refine EQ.out.mono ?_
          rintro e9 w2 ⟨rfl, g2⟩
          have G2 := Lib.hid (G1.out.trans g2)
          have T2 := Lib.hid ((T1.out.grew g2 (Nat.le_refl _)).mono (Nat.le_refl _) g2.size)
          clear T1 S1 EQ g2
          have g20 : Grew w2 w2.drew := (Grew.refl _).drew
          have TT := Lib.hid (RunesIn.take T2.out hm)
          have HL1 : Hid (tc = (ts.take tc).length) := by show _ = _; rw [List.length_take_of_le hm]
          have HL2 : Hid (ts.length - tc = (ts.drop tc).length) := by show _ = _; rw [List.length_drop]
          have HD : Hid (ts.drop tc = []) := by show _ = _; rw [List.drop_eq_nil_iff]; omega
          have CC := Lib.hid (concatRs_any [⟨some ⟨ab, ao, ax⟩, tc, ts.take tc⟩, ⟨some ⟨ab, ao, ax⟩, 0, []⟩] 2 #[.slice (some ⟨ab, ao, ax⟩) tc tc, .slice (some ⟨ab, ao, ax⟩) (ts.length - tc) 0] w2 23 rfl (by simp [PN.val]; omega) (by simp) (fun p hp => by
            rcases List.mem_cons.1 hp with rfl | hp
            · exact ⟨TT.out, by have := HL1.out; show (ts.take tc).length ≤ _; omega⟩
            · obtain rfl := List.mem_singleton.1 hp
              exact ⟨runesIn_empty, by simp⟩))
          clear hcap hm he1 he2
          go_upto_region 7 with fail
          go_region_held3 (fun w' => Grew w2 w') ((first | assumption | exact g20 | exact Grew.trans (by assumption) (by assumption) | exact Grew.trans (by assumption) (Grew.alloc1 _ _))) ((first | (go_loud (go_at_call 222; refine CC.out.mono ?_; rintro e9 w7 ⟨q, rfl, g7, hq, hqe⟩))))
          go_wp2_with fail
          go_ret2
          have HE : Hid (q.l = ts.take tc ++ ts.drop tc) := by show _ = _; rw [hqe.out, HD.out]; simp [flatR]
          exact retTx_some G2.out g7 hq HE HN
        · have HN : Hid (res = ([], 9)) := by show _ = _; rw [HX.out, if_neg (fun h => hd (HLD.out.symm.trans h))]
          rw [decide_eq_false hd] at EQ
          clear HX hd
          go_wp2_with fail
          refine EQ.out.mono ?_
          rintro e9 w2 ⟨rfl, g2⟩
          have G2 := Lib.hid (G1.out.trans g2)
          clear EQ g2
          go_wp2_with fail
          go_ret2
          exact retTx_no G2.out HN
      · have q7 : ¬ tc = m := hc
        have q8 : (m : Int) < tc := by omega
        have HLE : Hid (((ts.drop m).take (e - m)).length = e - m) := by show _ = _; rw [List.length_take, List.length_drop]; omega
        have HLD : Hid ((ts.drop m).take (e - m) = (ts.drop m).take (e - m)) := rfl
        have EQ := Lib.hid (equalRunes_any (some (Addr.add ⟨ab, ao, ax⟩ m)) sa (tc - m) sc ((ts.drop m).take (e - m)) ss w1 0 w1.heap.size 0 w1.heap.size (RunesIn.take (RunesIn.drop T1.out m (by omega)) (by rw [List.length_drop]; omega)) S1.out (by have := HLE.out; omega) hl2 (Nat.le_refl _) (Nat.le_refl _))
        rw [HLE.out] at EQ
        by_cases hd : ((ts.drop m).take (e - m)) = ss
        · have HN : Hid (res = (ts.take m ++ ts.drop e, 0)) := by show _ = _; rw [HX.out, if_pos (HLD.out.trans hd)]
          rw [decide_eq_true hd] at EQ
          clear HX hd
          go_wp2_with fail
          refine EQ.out.mono ?_
          rintro e9 w2 ⟨rfl, g2⟩
          have G2 := Lib.hid (G1.out.trans g2)
          have T2 := Lib.hid ((T1.out.grew g2 (Nat.le_refl _)).mono (Nat.le_refl _) g2.size)
          clear T1 S1 EQ g2
          have g20 : Grew w2 w2.drew := (Grew.refl _).drew
          by_cases hce : tc = e
          · subst hce
            have q9 : (tc : Int) ≤ tc := Int.le_refl _
            have TT := Lib.hid (RunesIn.take T2.out hm)
            have HL1 : Hid (m = (ts.take m).length) := by show _ = _; rw [List.length_take_of_le hm]
            have HL2 : Hid (ts.length - tc = (ts.drop tc).length) := by show _ = _; rw [List.length_drop]
            have HD : Hid (ts.drop tc = []) := by show _ = _; rw [List.drop_eq_nil_iff]; omega
            have CC := Lib.hid (concatRs_any [⟨some ⟨ab, ao, ax⟩, tc, ts.take m⟩, ⟨some ⟨ab, ao, ax⟩, 0, []⟩] 2 #[.slice (some ⟨ab, ao, ax⟩) m tc, .slice (some ⟨ab, ao, ax⟩) (ts.length - tc) 0] w2 23 rfl (by simp [PN.val]; omega) (by simp) (fun p hp => by
              rcases List.mem_cons.1 hp with rfl | hp
              · exact ⟨TT.out, by have := HL1.out; show (ts.take m).length ≤ _; omega⟩
              · obtain rfl := List.mem_singleton.1 hp
                exact ⟨runesIn_empty, by simp⟩))
            clear hcap hm he1 he2 q7 hc
            go_upto_region 7 with fail
            go_region_held3 (fun w' => Grew w2 w') ((first | assumption | exact g20 | exact Grew.trans (by assumption) (by assumption) | exact Grew.trans (by assumption) (Grew.alloc1 _ _))) ((first | (go_loud (go_at_call 222; refine CC.out.mono ?_; rintro e9 w7 ⟨q, rfl, g7, hq, hqe⟩))))
            go_wp2_with fail
            go_ret2
            have HE : Hid (q.l = ts.take m ++ ts.drop tc) := by show _ = _; rw [hqe.out, HD.out]; simp [flatR]
            exact retTx_some G2.out g7 hq HE HN
          · have q9 : ¬ tc = e := hce
            have q10 : (e : Int) < tc := by omega
            have TT := Lib.hid (RunesIn.take T2.out hm)
            have HL1 : Hid (m = (ts.take m).length) := by show _ = _; rw [List.length_take_of_le hm]
            have HL2 : Hid (ts.length - e = (ts.drop e).length) := by show _ = _; rw [List.length_drop]
            have CC := Lib.hid (concatRs_any [⟨some ⟨ab, ao, ax⟩, tc, ts.take m⟩, ⟨some (Addr.add ⟨ab, ao, ax⟩ e), tc - e, ts.drop e⟩] 2 #[.slice (some ⟨ab, ao, ax⟩) m tc, .slice (some (Addr.add ⟨ab, ao, ax⟩ e)) (ts.length - e) (tc - e)] w2 23 rfl (by simp [PN.val]; omega) (by simp) (fun p hp => by
              rcases List.mem_cons.1 hp with rfl | hp
              · exact ⟨TT.out, by have := HL1.out; show (ts.take m).length ≤ _; omega⟩
              · obtain rfl := List.mem_singleton.1 hp
                exact ⟨RunesIn.drop T2.out e (by omega), by have := HL2.out; show (ts.drop e).length ≤ _; omega⟩))
            clear hcap hm he1 he2
            go_upto_region 7 with fail
            go_region_held3 (fun w' => Grew w2 w') ((first | assumption | exact g20 | exact Grew.trans (by assumption) (by assumption) | exact Grew.trans (by assumption) (Grew.alloc1 _ _))) ((first | (go_loud (go_at_call 222; refine CC.out.mono ?_; rintro e9 w7 ⟨q, rfl, g7, hq, hqe⟩))))
            go_wp2_with fail
            go_ret2
            have HE : Hid (q.l = ts.take m ++ ts.drop e) := by show _ = _; rw [hqe.out]; simp [flatR]
            exact retTx_some G2.out g7 hq HE HN
        · have HN : Hid (res = ([], 9)) := by show _ = _; rw [HX.out, if_neg (fun h => hd (HLD.out.symm.trans h))]
          rw [decide_eq_false hd] at EQ
          clear HX hd
          go_wp2_with fail
          refine EQ.out.mono ?_
          rintro e9 w2 ⟨rfl, g2⟩
          have G2 := Lib.hid (G1.out.trans g2)
          clear EQ g2
          go_wp2_with fail
          go_ret2
          exact retTx_no G2.out HN
  · have HN : Hid (res = ([], k)) := by show _ = _; rw [HR.out, if_neg hk]
    have t1 : (k == 0) = false := by simpa using hk
    have t2 : (k != 0) = true := by simpa using hk
    clear HR HZ hk
    go_enter Tryz.func190, Tryz.ntmps190
    go_wp2_with fail
    refine CA.out.mono ?_
    rintro e w1 ⟨rfl, g1⟩
    go_wp2_with fail
    go_ret2
    exact retTx_no g1 HN
end Go.Proofs.YtbhbekocmpmjfaaGreatDoor
