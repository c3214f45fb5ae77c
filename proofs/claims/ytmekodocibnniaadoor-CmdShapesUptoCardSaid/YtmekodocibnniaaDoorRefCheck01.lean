/- redlineref01.Key, Val, Check: the contracts. -/
import Derived.Test.YtmekodocibnniaaDoorCheck01
import Derived.Deep.DeepCutAuto
namespace Go.Proofs.YtmekodocibnniaaDoor
open Go Go.RowKit

theorem all_take (p : UInt8 → Bool) (l : List UInt8) (k : Nat) (hk : k < l.length) (h : (l.take k).all p = true) : (l.take (k + 1)).all p = p l[k] := by
  rw [List.take_succ_eq_append_getElem hk, List.all_append, h]
  simp
theorem all_bad (p : UInt8 → Bool) (l : List UInt8) (k : Nat) (hk : k < l.length) (h : p l[k] = false) : l.all p = false := by
  rw [List.all_eq_false]
  exact ⟨l[k], List.getElem_mem hk, by simp [h]⟩
theorem byte_at (s : ByteArray) (k : Nat) (_ : k < s.size) (hk : k < s.data.toList.length) : s.data.toList[k] = s[k] := by
  rw [Array.getElem_toList]; rfl
theorem isKey_bad {s : ByteArray} {k : Nat} (hk : k < s.data.toList.length) (h : lowB s.data.toList[k] = false) : isKey s = false := by
  simp [isKey, all_bad lowB _ k hk h]
theorem isVal_bad {s : ByteArray} {k : Nat} (hk : k < s.data.toList.length) (h : valB s.data.toList[k] = false) : isVal s = false := by
  simp [isVal, all_bad valB _ k hk h]

set_option maxHeartbeats 1000000 in
theorem refKey_any (s : ByteArray) (w : World) (hs : s.size ≤ 1048576) :
    Calls Tryd.prog 36 #[.string s] w fun e w' => e = .returned (.bool (isKey s)) ∧ Grew w w' := by
  have hlen : s.data.toList.length = s.size := (Lib.size_eq s).symm
  go_enter Tryd.func36, Tryd.ntmps36
  go_wp2_with fail
  go_loopw [6] (fun i wr => ∃ (k : Nat), k ≤ s.size ∧ i = .int .i64 k ∧ wr = w ∧ Hid ((s.data.toList.take k).all lowB = true)) (fun i _ => s.size - (intOf i).toNat)
  case atStart => exact ⟨0, by omega, rfl, rfl, (show List.all (List.take 0 _) _ = true by simp)⟩
  case round =>
    obtain ⟨k, hk, rfl, rfl, hall⟩ := hrel
    by_cases hlt : k < s.size
    · have hkl : k < s.data.toList.length := by omega
      have HA := Lib.hid (all_take lowB s.data.toList k hkl hall.out)
      have HB := Lib.hid (isKey_bad hkl)
      rw [byte_at s k hlt hkl] at HA HB
      by_cases h1 : 97 ≤ (s[k].toNat : Int)
      · by_cases h2 : (s[k].toNat : Int) ≤ 122
        · have HC := Lib.hid (HA.out.trans (show lowB s[k] = true by simp only [lowB, Bool.and_eq_true, decide_eq_true_eq]; omega))
          clear HA HB hall
          go_wp2_with fail
          go_roundw
          case rel => exact ⟨k + 1, by omega, by go_num, trivial, HC⟩
          case measure => simp [intOf]; omega
        · have HC := Lib.hid (HB.out (show lowB s[k] = false by simp only [lowB, Bool.and_eq_false_iff, decide_eq_false_iff_not]; omega))
          clear HA HB hall
          go_wp2_with fail
          go_ret
          exact ⟨ret_bool HC.out.symm, Grew.refl _⟩
      · have HC := Lib.hid (HB.out (show lowB s[k] = false by simp only [lowB, Bool.and_eq_false_iff, decide_eq_false_iff_not]; omega))
        clear HA HB hall
        go_wp2_with fail
        go_ret
        exact ⟨ret_bool HC.out.symm, Grew.refl _⟩
    · obtain rfl : k = s.size := by omega
      have hal : s.data.toList.all lowB = true := by
        have := hall.out
        rwa [List.take_of_length_le (by omega)] at this
      have HK : Hid (isKey s = (decide (1 ≤ s.size) && decide (s.size ≤ 16))) := by show _ = _; simp [isKey, hal]
      clear hall hal hlen
      by_cases h1 : 1 ≤ s.size
      · by_cases h2 : s.size ≤ 16
        · have HE : Hid (isKey s = true) := by show _ = _; rw [HK.out]; simp [h1, h2]
          have h3 : decide ((s.size : Int) ≤ 16) = true := decide_eq_true (by omega)
          go_wp2_with fail
          go_ret
          exact ⟨ret_bool HE.out.symm, Grew.refl _⟩
        · have HE : Hid (isKey s = false) := by show _ = _; rw [HK.out]; simp [h2]
          have h3 : decide ((s.size : Int) ≤ 16) = false := decide_eq_false (by omega)
          go_wp2_with fail
          go_ret
          exact ⟨ret_bool HE.out.symm, Grew.refl _⟩
      · have HE : Hid (isKey s = false) := by show _ = _; rw [HK.out]; simp [h1]
        go_wp2_with fail
        go_ret
        exact ⟨ret_bool HE.out.symm, Grew.refl _⟩

theorem valB_of {b : UInt8} (h : (97 ≤ b.toNat ∧ b.toNat ≤ 122) ∨ (48 ≤ b.toNat ∧ b.toNat ≤ 57) ∨ b.toNat = 45) : valB b = true := by
  simp only [valB, lowB, Bool.or_eq_true, Bool.and_eq_true, decide_eq_true_eq]; omega
theorem valB_not {b : UInt8} (h : ¬ ((97 ≤ b.toNat ∧ b.toNat ≤ 122) ∨ (48 ≤ b.toNat ∧ b.toNat ≤ 57) ∨ b.toNat = 45)) : valB b = false := by
  rw [← Bool.not_eq_true]
  intro hv
  simp only [valB, lowB, Bool.or_eq_true, Bool.and_eq_true, decide_eq_true_eq] at hv
  omega

set_option maxHeartbeats 1000000 in
theorem refVal_any (s : ByteArray) (w : World) (hs : s.size ≤ 1048576) :
    Calls Tryd.prog 37 #[.string s] w fun e w' => e = .returned (.bool (isVal s)) ∧ Grew w w' := by
  have hlen : s.data.toList.length = s.size := (Lib.size_eq s).symm
  go_enter Tryd.func37, Tryd.ntmps37
  go_wp2_with fail
  go_loopw [7] (fun i wr => ∃ (k : Nat), k ≤ s.size ∧ i = .int .i64 k ∧ wr = w ∧ Hid ((s.data.toList.take k).all valB = true)) (fun i _ => s.size - (intOf i).toNat)
  case atStart => exact ⟨0, by omega, rfl, rfl, (show List.all (List.take 0 _) _ = true by simp)⟩
  case round =>
    obtain ⟨k, hk, rfl, rfl, hall⟩ := hrel
    by_cases hlt : k < s.size
    · have hkl : k < s.data.toList.length := by omega
      have HA := Lib.hid (all_take valB s.data.toList k hkl hall.out)
      have HB := Lib.hid (isVal_bad hkl)
      rw [byte_at s k hlt hkl] at HA HB
      by_cases h1 : 97 ≤ (s[k].toNat : Int)
      · by_cases h2 : (s[k].toNat : Int) ≤ 122
        · have HC := Lib.hid (HA.out.trans (valB_of (by omega)))
          clear HA HB hall
          go_wp2_with fail
          go_roundw
          case rel => exact ⟨k + 1, by omega, by go_num, trivial, HC⟩
          case measure => simp [intOf]; omega
        · have HC := Lib.hid (HB.out (valB_not (by omega)))
          have h3 : 48 ≤ (s[k].toNat : Int) := by omega
          have h4 : ¬ (s[k].toNat : Int) ≤ 57 := by omega
          have h5 : ((s[k].toNat : Int) == 45) = false := by simp; omega
          clear HA HB hall
          go_wp2_with fail
          go_ret
          exact ⟨ret_bool HC.out.symm, Grew.refl _⟩
      · by_cases h3 : 48 ≤ (s[k].toNat : Int)
        · by_cases h4 : (s[k].toNat : Int) ≤ 57
          · have HC := Lib.hid (HA.out.trans (valB_of (by omega)))
            clear HA HB hall
            go_wp2_with fail
            go_roundw
            case rel => exact ⟨k + 1, by omega, by go_num, trivial, HC⟩
            case measure => simp [intOf]; omega
          · have HC := Lib.hid (HB.out (valB_not (by omega)))
            have h5 : ((s[k].toNat : Int) == 45) = false := by simp; omega
            clear HA HB hall
            go_wp2_with fail
            go_ret
            exact ⟨ret_bool HC.out.symm, Grew.refl _⟩
        · by_cases h5 : (s[k].toNat : Int) = 45
          · have HC := Lib.hid (HA.out.trans (valB_of (by omega)))
            have h6 : ((s[k].toNat : Int) == 45) = true := by simp [h5]
            clear HA HB hall h5
            go_wp2_with fail
            go_roundw
            case rel => exact ⟨k + 1, by omega, by go_num, trivial, HC⟩
            case measure => simp [intOf]; omega
          · have HC := Lib.hid (HB.out (valB_not (by omega)))
            have h6 : ((s[k].toNat : Int) == 45) = false := by simpa using h5
            clear HA HB hall h5
            go_wp2_with fail
            go_ret
            exact ⟨ret_bool HC.out.symm, Grew.refl _⟩
    · obtain rfl : k = s.size := by omega
      have hal : s.data.toList.all valB = true := by
        have := hall.out
        rwa [List.take_of_length_le (by omega)] at this
      have HK : Hid (isVal s = decide (s.size ≤ 32)) := by show _ = _; simp [isVal, hal]
      clear hall hal hlen
      have h3 : decide ((s.size : Int) ≤ 32) = decide (s.size ≤ 32) := by
        rw [decide_eq_decide]; omega
      go_wp2_with fail
      go_ret
      exact ⟨ret_bool HK.out.symm, Grew.refl _⟩

theorem chkPs_first {p : PropL} {r : List PropL} : chkPs .empty (p :: r) = if isKey p.1 && isVal p.2 then chkPs p.1 r else 3 := by
  simp only [chkPs]
  by_cases h : isKey p.1 = true
  · simp [leS_empty _ h]
  · simp [h]
theorem chkPs_at0 (ps : List PropL) (h : 0 < ps.length) : chkPs .empty ps = if isKey (ps.getD 0 default).1 && isVal (ps.getD 0 default).2 then chkPs (ps.getD 0 default).1 (ps.drop 1) else 3 := by
  cases ps with
  | nil => simp at h
  | cons p r => exact chkPs_first

set_option maxHeartbeats 1000000 in
theorem refCheck01_any (ps : List PropL) (pa : Option Addr) (pc : Nat) (w : World) (lo hi : Nat) (hp : PropsIn w lo hi pa pc ps) (hh : hi ≤ w.heap.size) (hb : propsBulk ps ≤ 1048576) :
    Calls Tryd.prog 26 #[.slice pa ps.length pc] w fun e w' => e = .returned (.int .i64 (checkPs ps)) ∧ Grew w w' := by
  have hlen := propsBulk_len ps
  by_cases hlong : 16 < ps.length
  · have HC := Lib.hid (checkPs_long hlong)
    go_enter Tryd.func26, Tryd.ntmps26
    go_wp2_with fail
    go_ret
    exact ⟨ret_int HC.out.symm, Grew.refl _⟩
  · have HC := Lib.hid (checkPs_short hlong)
    have hl : ps.length ≤ 16 := by omega
    clear hlong hlen
    go_enter Tryd.func26, Tryd.ntmps26
    go_wp2_with fail
    go_loopw [10] (fun i wr => ∃ (k : Nat) (ls : ByteArray), k ≤ ps.length ∧ i = .int .i64 k ∧ Grew w wr ∧ Hid (checkPs ps = chkPs ls (ps.drop k)) ∧ ((k = 0 ∧ ls = .empty) ∨ (0 < k ∧ Hid (ls = (ps.getD (k - 1) default).1)))) (fun i _ => ps.length - (intOf i).toNat)
    case atStart => exact ⟨0, .empty, by omega, rfl, Grew.refl _, HC, Or.inl ⟨rfl, rfl⟩⟩
    case round =>
      obtain ⟨k, ls, hk, rfl, hg, hc, hls⟩ := hrel
      by_cases hlt : k < ps.length
      · have hat := fun wx (hgx : Grew w wx) => (hp.grew hgx hh).at hlt
        have hat0 := fun wx (hgx : Grew w wx) (h : 0 < k) => (hp.grew hgx hh).at (j := k - 1) (by omega)
        obtain ⟨b, o, rfl, _, hbh, c0, c1⟩ := hat wr hg
        have hs := props_str hb hlt
        have HN := Lib.hid (hc.out.trans (chkPs_next ls ps k hlt))
        clear hc HC hat
        obtain ⟨p, hpp⟩ : ∃ p, ps.getD k default = p := ⟨_, rfl⟩
        have HP : Hid (p.1 = (ps.getD (k + 1 - 1) default).1) := by show _ = _; rw [Nat.add_sub_cancel, hpp]
        rw [hpp] at c0 c1 hs HN
        clear hpp
        have KA := Lib.hid (fun w => refKey_any p.1 w hs.1)
        have VA := Lib.hid (fun w => refVal_any p.2 w hs.2)
        go_wp2_with fail
        refine (KA.out _).mono ?_
        rintro e w1 ⟨rfl, g1⟩
        obtain ⟨d0, d1, z1⟩ := pbox g1
        cases hk1 : isKey p.1 with
        | false =>
          have HE : Hid (checkPs ps = 3) := by show _ = _; rw [HN.out, hk1]; rfl
          go_wp2_with fail
          go_ret
          exact ⟨ret_int HE.out.symm, hg.trans ((Grew.alloc1 _ _).trans g1)⟩
        | true =>
          go_wp2_with fail
          refine (VA.out _).mono ?_
          rintro e w2 ⟨rfl, g2⟩
          obtain ⟨d2, d3, z2⟩ := pbox (g1.trans g2)
          clear d0 d1
          cases hk2 : isVal p.2 with
          | false =>
            have HE : Hid (checkPs ps = 3) := by show _ = _; rw [HN.out, hk1, hk2]; rfl
            go_wp2_with fail
            go_ret
            exact ⟨ret_int HE.out.symm, hg.trans ((Grew.alloc1 _ _).trans (g1.trans g2))⟩
          | true =>
            have gw := hg.trans ((Grew.alloc1 wr (Obj.cells #[.string p.1, .string p.2] 56)).trans (g1.trans g2))
            go_upto_region 8 with fail
            go_cut [37] from 25 to 37 (fun s wx => s = .bool (leS p.1 ls) ∧ Grew w wx)
            case first =>
              rcases hls with ⟨h0, h1⟩ | ⟨h0, h1⟩
              · subst h0 h1
                have HL := Lib.hid (leS_empty p.1 hk1)
                clear HN KA VA
                go_wp2_with fail
                go_region
                all_goals
                  go_wp2_with fail
                  go_meet
                  exact ⟨by rw [HL.out], gw.drew⟩
              · obtain ⟨b', o', hbo, _, _, e0, _⟩ := hat0 w2 gw h0
                cases hbo
                rw [← h1.out] at e0
                obtain ⟨m, rfl⟩ : ∃ m, k = m + 1 := ⟨k - 1, by omega⟩
                rw [show m + 1 - 1 = m from rfl] at e0
                rw [show (((m + 1 : Nat)) : Int) = (m : Int) + 1 from rfl] at *
                have hml : (m : Int) < ps.length := by omega
                have hm0 : (0 : Int) < (m : Int) + 1 := by omega
                have hmw : IntKind.i64.wrap (m : Int) = m := by rw [IntKind.wrap_i64]; omega
                have hmw1 : IntKind.i64.wrap ((m : Int) + 1 - 1) = m := by rw [IntKind.wrap_i64]; omega
                have hm00 : (0 : Int) ≤ m := by omega
                clear HN KA VA h1 h0
                have HL : Hid ((Op.bytesLess p.1.toList ls.toList || p.1.toList == ls.toList) = leS p.1 ls) := rfl
                go_wp2_with fail
                go_quiet (fail)
                go_wp2_with fail
                go_meet
                exact ⟨by rw [← HL.out], gw.drewN _⟩
            case rest =>
              obtain ⟨rfl, gc⟩ := hcut
              cases hk3 : leS p.1 ls with
              | true =>
                have HE : Hid (checkPs ps = 1) := by show _ = _; rw [HN.out, hk1, hk2, hk3]; rfl
                go_wp2_with fail
                go_ret
                exact ⟨ret_int HE.out.symm, gc⟩
              | false =>
                have HE : Hid (checkPs ps = chkPs p.1 (ps.drop (k + 1))) := by show _ = _; rw [HN.out, hk1, hk2, hk3]; rfl
                go_wp2_with fail
                go_roundw
                case rel => exact ⟨k + 1, p.1, by omega, by go_num, gc, HE, Or.inr ⟨by omega, HP⟩⟩
                case measure => simp [intOf]; omega
      · have HE : Hid (checkPs ps = 0) := by
          show _ = _
          rw [hc.out, List.drop_eq_nil_of_le (by omega)]; rfl
        have hge : k = ps.length := by omega
        subst hge
        go_wp2_with fail
        go_ret
        exact ⟨ret_int HE.out.symm, hg⟩
end Go.Proofs.YtmekodocibnniaaDoor
