/- The law redlinelaw16.ValidParts: the contract. -/
import Derived.Test.YtnkmcbhpmbjkpaaSees
import Derived.Test.YtnkmcbhpmbjkpaaPartsPure
namespace Go.Proofs.Ytnkmcbhpmbjkpaa
open Go Go.RowKit

set_option maxHeartbeats 40000000 in
set_option maxRecDepth 100000 in
theorem parts_any (s : SN) (n : NT) (w : World) (hs : s.Ok w) (hsm : s.Small) (hn : n.Ok w) (hb : n.er.bulk ≤ 1048576) :
    Calls Try.prog 6 #[s.val, n.val] w fun e w' => e = .returned (.bool true) ∧ Grew w w' := by
  have CL := Lib.hid (fun w1 : World => live16_any w1)
  have CW := Lib.hid (fun w1 (hg : Grew w w1) => few16_any s n w1 (hs.grew hg) hsm (hn.grew hg) hb)
  have CF := Lib.hid (fun w1 (hg : Grew w w1) => find_any s n w1 (hs.grew hg) hsm (hn.grew hg) hb)
  have CU := Lib.hid (fun w1 (hg : Grew w w1) => valid_any s hsm n w1 (hs.grew hg) (hn.grew hg) hb)
  have CR := Lib.hid (fun w1 (hg : Grew w w1) => wrong_any s n w1 (hs.grew hg) hsm (hn.grew hg) hb)
  have CG := Lib.hid (fun pa pc p w1 (hg : Grew w w1) => treeGet_any n pa pc p w1 (hn.grew hg) hb)
  have CX := Lib.hid (fun (x : NT) w1 (hg : Grew w w1) (hx : x.Ok w1) (hxb : x.er.bulk ≤ 1048576) => find_any s x w1 (hs.grew hg) hsm hx hxb)
  have CK := Lib.hid (fun (x : NT) w1 (hg : Grew w w1) (hx : x ∈ n.ks) => valid_any s hsm x w1 (hs.grew hg) (NT.Ok.grew (w := w) (n := x) ((NT.In_iff.1 hn).2.2.2 x hx) hg) (by
    have := T.bulk_kid (n := n.er) (k := x.er) (by rw [NT.er_ks]; exact er_mem hx)
    omega))
  have HK := Lib.hid (fun w1 (hg : Grew w w1) => (NT.In_iff.1 (NT.In.grew hn hg (Nat.le_refl _))).2.2)
  have hlens := n.lens
  have l3 : n.ks.length ≤ 1048576 := by omega
  clear hlens
  obtain ⟨ka, hka⟩ : ∃ x, n.ka = x := ⟨_, rfl⟩
  have HKA := Lib.hid hka
  clear hka
  have hB0 := LawBox.new w s n
  unfold SN.val at *
  unfold NT.val at CW CF CU CR CG CX CK ⊢
  go_enter Try.func6, Try.ntmps6
  go_wp2_with fail
  generalize (w.alloc (.cells #[.slice s.ra s.rules.length s.rc, .string s.els.ty, .int .i64 s.els.td, .string s.els.tt, .int .i64 s.els.od, .string s.els.ot, .slice s.els.ka s.els.kids.length s.els.kc, .int .i64 s.els.fill, .string s.els.ft, .int .i64 s.o0, .int .i64 s.o1, .int .i64 s.o2, .int .i64 s.o3, .int .i64 s.o4, .int .i64 s.o5, .int .i64 s.cap] 30)).alloc (.cells #[.bool n.lf, .slice n.pa n.ps.length n.pc, .slice n.ta n.ts.length n.tc, .slice n.ka n.ks.length n.kc] 35) = w1 at *
  refine (CL.out w1).mono ?_
  rintro e w2 ⟨rfl, g2⟩
  have hB2 := hB0.next g2
  have C := Lib.hid (CW.out w2 hB2.1)
  have HB2 := Lib.hid hB2
  obtain ⟨_, _, ⟨s0, s1, s2, s3, s4, s5, s6, s7, s8, s9, s10, s11, s12, s13, s14, s15⟩, ⟨n0, n1, n2, n3⟩⟩ := hB2
  clear hB0 g2
  go_wp2_with fail
  refine C.out.mono ?_
  clear s0 s1 s2 s3 s4 s5 s6 s7 s8 s9 s10 s11 s12 s13 s14 s15 n0 n1 n2 n3
  rintro e w3 ⟨b, rfl, g3⟩
  have hB3 := HB2.out.next g3
  clear g3 C HB2
  cases b with
  | false =>
    go_wp2_with fail
    go_ret
    exact ⟨rfl, hB3.1⟩
  | true =>
    have HB3 := Lib.hid hB3
    obtain ⟨_, _, ⟨s0, s1, s2, s3, s4, s5, s6, s7, s8, s9, s10, s11, s12, s13, s14, s15⟩, ⟨n0, n1, n2, n3⟩⟩ := hB3
    have C := Lib.hid (CF.out w3 HB3.out.1)
    go_wp2_with fail
    refine C.out.mono ?_
    clear s0 s1 s2 s3 s4 s5 s6 s7 s8 s9 s10 s11 s12 s13 s14 s15 n0 n1 n2 n3
    as_aux_lemma =>
      rintro e w4 ⟨rfl, g4⟩
      have hB4 := HB3.out.next g4
      clear C HB3 g4
      have n3 := hB4.2.2.2.2.2.2
      rw [HKA.out] at n3
      obtain ⟨u, c, hu, hcu, hgu, hc⟩ := find_of s.er n.er
      have HVE : Hid (validT s.er n.er = (c && (n.ks.map NT.er).all (validT s.er))) := by
        show _ = _
        rw [validT_eq, hc, NT.er_ks]
      rw [hu]
      clear hu hc CF
      go_wp2_with fail
      clear hcu hgu n3
      go_loopw [5, 27] (fun t5 i wr => ∃ (k : Nat) (b : Bool), k ≤ n.ks.length ∧ i = .int .i64 k ∧ t5 = .bool b ∧ LawBox w s n wr ∧ Hid (b = (c && ((n.ks.map NT.er).take k).all (validT s.er)))) (fun _ i _ => n.ks.length - (intOf i).toNat)
      case atStart => exact ⟨0, c, by omega, rfl, rfl, hB4, by show _ = _; simp⟩
      case round =>
        obtain ⟨k, b, hk1, rfl, rfl, hB, hH⟩ := hrel
        clear hB4
        by_cases hlt : k < n.ks.length
        · as_aux_lemma =>
            obtain ⟨kb, ko, hka2, _, hbh, c0, c1, c2, c3⟩ := (HK.out wr hB.1).at hlt
            obtain rfl : ka = some ⟨kb, ko, none⟩ := by rw [← HKA.out]; exact hka2
            clear hka2
            have hmem := getD_mem n.ks k hlt
            have HT := Lib.hid (kids_take n.ks k hlt)
            have CKx := Lib.hid (fun w1 hg => CK.out (n.ks.getD k default) w1 hg hmem)
            clear hmem
            generalize n.ks.getD k default = x at *
            cases b with
            | false =>
              have HN : Hid (false = (c && ((n.ks.map NT.er).take (k + 1)).all (validT s.er))) := by
                show _ = _
                rw [HT.out, List.all_append, ← Bool.and_assoc, ← hH.out]; rfl
              have hBn := hB.next (Grew.alloc1 wr (.cells #[.bool x.lf, .slice x.pa x.ps.length x.pc, .slice x.ta x.ts.length x.tc, .slice x.ka x.ks.length x.kc] 35))
              go_wp2_with fail
              go_roundw
              case rel => exact ⟨k + 1, false, by omega, by go_num, rfl, hBn, HN⟩
              case measure => simp [intOf]; omega
            | true =>
              have HN : Hid (validT s.er x.er = (c && ((n.ks.map NT.er).take (k + 1)).all (validT s.er))) := by
                show _ = _
                rw [HT.out, List.all_append, ← Bool.and_assoc, ← hH.out]; simp
              go_upto_region 9 with fail
              have hBn := hB.next (Grew.alloc1 wr (.cells #[.bool x.lf, .slice x.pa x.ps.length x.pc, .slice x.ta x.ts.length x.tc, .slice x.ka x.ks.length x.kc] 35))
              have hbx : NT.Box x wr.heap.size (wr.alloc (.cells #[.bool x.lf, .slice x.pa x.ps.length x.pc, .slice x.ta x.ts.length x.tc, .slice x.ka x.ks.length x.kc] 35)) := ⟨by go_simp, by go_simp, by go_simp, by go_simp⟩
              clear c0 c1 c2 c3 hB
              generalize wr.alloc (.cells #[.bool x.lf, .slice x.pa x.ps.length x.pc, .slice x.ta x.ts.length x.tc, .slice x.ka x.ks.length x.kc] 35) = w5 at *
              have C := Lib.hid (CKx.out w5 hBn.1)
              generalize validT s.er x.er = v at *
              have HBn := Lib.hid hBn
              obtain ⟨_, _, ⟨s0, s1, s2, s3, s4, s5, s6, s7, s8, s9, s10, s11, s12, s13, s14, s15⟩, _⟩ := hBn
              obtain ⟨n0, n1, n2, n3⟩ := hbx
              go_wp2_with fail
              refine C.out.mono ?_
              clear s0 s1 s2 s3 s4 s5 s6 s7 s8 s9 s10 s11 s12 s13 s14 s15 n0 n1 n2 n3
              rintro e w6 ⟨rfl, g6⟩
              have hBx := HBn.out.next g6
              go_wp2_with fail
              go_roundw
              case rel => exact ⟨k + 1, v, by omega, by go_num, rfl, hBx, HN⟩
              case measure => simp [intOf]; omega
        · obtain rfl : n.ks.length = k := by omega
          have hbv : b = validT s.er n.er := by
            rw [hH.out, HVE.out, ← List.length_map (f := NT.er), List.take_length]
          clear HVE hH
          subst hbv
          as_aux_lemma =>
            have HB5 := Lib.hid hB
            have hlt2 : ¬ (n.ks.length : Int) < n.ks.length := by omega
            have C := Lib.hid (CR.out wr hB.1)
            obtain ⟨_, _, ⟨s0, s1, s2, s3, s4, s5, s6, s7, s8, s9, s10, s11, s12, s13, s14, s15⟩, ⟨n0, n1, n2, n3⟩⟩ := hB
            go_wp2_with fail
            refine C.out.mono ?_
            clear s0 s1 s2 s3 s4 s5 s6 s7 s8 s9 s10 s11 s12 s13 s14 s15 n0 n1 n2 n3
            rintro e w6 ⟨la, lc, ls, rfl, g6, hlr, hli, hlw⟩
            have hB6 := HB5.out.next g6
            have hlen : ls.length ≤ 1048576 := by
              have h1 := congrArg List.length hlw.out
              have h2 := T.paths_le n.er []
              have h3 : (wrongT s.er n.er).length ≤ (n.er.paths []).length := List.length_filter_le _ _
              rw [List.length_map] at h1
              omega
            clear C HB5
            go_wp2_with fail
            have HLW := Lib.hid hlw.out
            have HPI := Lib.hid (fun p (hp : p ∈ ls) => (wrong_mem (s := s.er) (t := n.er) (q := p.l) (by rw [← hlw.out]; exact List.mem_map_of_mem hp)))
            have HPL := Lib.hid (fun p (hp : p ∈ ls) => paths_depth n.er [] p.l (List.mem_filter.1 (show p.l ∈ wrongT s.er n.er by rw [← hlw.out]; exact List.mem_map_of_mem hp)).1)
            clear hlw
            go_loopw [43] (fun i wr => ∃ (k : Nat), k ≤ ls.length ∧ i = .int .i64 k ∧ LawBox w s n wr ∧ Grew w6 wr) (fun i _ => ls.length - (intOf i).toNat)
            case atStart => exact ⟨0, by omega, rfl, hB6, Grew.refl _⟩
            case round =>
              obtain ⟨k, hk1, rfl, hB, hG⟩ := hrel
              clear hB6
              by_cases hlt : k < ls.length
              · as_aux_lemma =>
                  obtain ⟨pb, po, rfl, _, hpb, hpc⟩ := (hlr.grew hG (Nat.le_refl _)).at hlt
                  have hmem := getD_mem ls k hlt
                  have hpi := (hli _ hmem).grew hG (Nat.le_refl _)
                  have hpl := HPL.out _ hmem
                  have HW := Lib.hid (HPI.out _ hmem)
                  clear hmem HPI HPL
                  generalize ls.getD k default = p at *
                  have C := Lib.hid (CG.out p.a p.c p.l wr hB.1 (hpi.mono (Nat.le_refl _) hG.size) (by simp only [List.length_nil] at hpl; omega))
                  have HBn := Lib.hid hB
                  obtain ⟨_, _, _, ⟨n0, n1, n2, n3⟩⟩ := hB
                  clear hpi hpl
                  go_wp2_with fail
                  refine C.out.mono ?_
                  clear n0 n1 n2 n3
                  rintro e w7 ⟨x, j, rfl, g7, hx, hH⟩
                  obtain ⟨y, hy1, hy2⟩ := HW.out
                  rcases hH.out with ⟨rfl, hat⟩ | ⟨rfl, hat, _⟩
                  · have hye : x.er = y := Option.some.inj (hat.symm.trans hy1)
                    subst hye
                    have hxb := bulk_at hat
                    have hB7 := HBn.out.next g7
                    unfold NT.val
                    go_upto_region 16 with fail
                    have hx8 := NT.Ok.grew (hx.1.ok (Nat.le_refl _)) (Grew.alloc1 w7 (.cells #[.bool x.lf, .slice x.pa x.ps.length x.pc, .slice x.ta x.ts.length x.tc, .slice x.ka x.ks.length x.kc] 35))
                    have hBx := hB7.next (Grew.alloc1 w7 (.cells #[.bool x.lf, .slice x.pa x.ps.length x.pc, .slice x.ta x.ts.length x.tc, .slice x.ka x.ks.length x.kc] 35))
                    have hG7 := (hG.trans g7).trans (Grew.alloc1 w7 (.cells #[.bool x.lf, .slice x.pa x.ps.length x.pc, .slice x.ta x.ts.length x.tc, .slice x.ka x.ks.length x.kc] 35))
                    have hbx : NT.Box x w7.heap.size (w7.alloc (.cells #[.bool x.lf, .slice x.pa x.ps.length x.pc, .slice x.ta x.ts.length x.tc, .slice x.ka x.ks.length x.kc] 35)) := ⟨by go_simp, by go_simp, by go_simp, by go_simp⟩
                    generalize w7.alloc (.cells #[.bool x.lf, .slice x.pa x.ps.length x.pc, .slice x.ta x.ts.length x.tc, .slice x.ka x.ks.length x.kc] 35) = w8 at *
                    have C2 := Lib.hid (CX.out x w8 hBx.1 hx8 (by omega))
                    unfold findVal at C2
                    clear hH hat hy1 HW hx hx8 C hxb HBn hB7
                    generalize findT s.er x.er = f at *
                    obtain ⟨f1, f2, f3⟩ := f
                    have h1 : (f1 == 0) = false := by simpa using hy2
                    have HB8 := Lib.hid hBx
                    obtain ⟨_, _, ⟨s0, s1, s2, s3, s4, s5, s6, s7, s8, s9, s10, s11, s12, s13, s14, s15⟩, _⟩ := hBx
                    obtain ⟨n0, n1, n2, n3⟩ := hbx
                    go_wp2_with fail
                    refine C2.out.mono ?_
                    clear s0 s1 s2 s3 s4 s5 s6 s7 s8 s9 s10 s11 s12 s13 s14 s15 n0 n1 n2 n3
                    rintro e w9 ⟨rfl, g9⟩
                    have hB9 := HB8.out.next g9
                    go_wp2_with fail
                    go_roundw
                    case rel => exact ⟨k + 1, by omega, by go_num, hB9, hG7.trans g9⟩
                    case measure => simp [intOf]; omega
                  · rw [hat] at hy1; cases hy1
              · obtain rfl : ls.length = k := by omega
                as_aux_lemma =>
                  have HB8 := Lib.hid hB
                  have C := Lib.hid (CU.out wr hB.1)
                  have HN := Lib.hid (wrong_nil s.er n.er)
                  have hlt2 : ¬ (ls.length : Int) < ls.length := by omega
                  obtain ⟨_, _, ⟨s0, s1, s2, s3, s4, s5, s6, s7, s8, s9, s10, s11, s12, s13, s14, s15⟩, ⟨n0, n1, n2, n3⟩⟩ := hB
                  cases hv : validT s.er n.er with
                  | true =>
                    rw [hv] at C
                    have hz : ls.length = 0 := by
                      have h1 := congrArg List.length HLW.out
                      rw [HN.out.2 hv, List.length_map] at h1
                      simpa using h1
                    have hz2 : ((ls.length : Int) == 0) = true := by simp [hz]
                    clear hv hz
                    go_wp2_with fail
                    refine C.out.mono ?_
                    rintro e w9 ⟨rfl, g9⟩
                    have hB9 := HB8.out.next g9
                    go_wp2_with fail
                    go_ret
                    exact ⟨rfl, hB9.1⟩
                  | false =>
                    rw [hv] at C
                    have hz : ls.length ≠ 0 := fun h => by
                      have h1 := congrArg List.length HLW.out
                      rw [List.length_map, h] at h1
                      have h2 := HN.out.1 (List.eq_nil_of_length_eq_zero h1.symm)
                      rw [hv] at h2; cases h2
                    have hz2 : ((ls.length : Int) == 0) = false := by simpa using hz
                    clear hv hz
                    go_wp2_with fail
                    refine C.out.mono ?_
                    rintro e w9 ⟨rfl, g9⟩
                    have hB9 := HB8.out.next g9
                    go_wp2_with fail
                    go_ret
                    exact ⟨rfl, hB9.1⟩
end Go.Proofs.Ytnkmcbhpmbjkpaa
