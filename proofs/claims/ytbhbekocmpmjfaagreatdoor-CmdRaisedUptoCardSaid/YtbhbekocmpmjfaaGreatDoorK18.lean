/- slices.Grow of nil, slices.Concat, of rows of runes: the contracts. -/
import Derived.Test.YtbhbekocmpmjfaaGreatDoorK14
import Derived.Test.YtbhbekocmpmjfaaGreatDoorK11
import Derived.Lib.AppendZerosOnto
import Derived.Lib.SliceRun
import Derived.Laws.OwnMore
import Derived.Ground.NamesProg
import Derived.Shelf.Small.Utf8
import Derived.Shelf.Strings.SlTrimAscii
import Derived.Test.YtbhbekocmpmjfaaGreatDoorProg
import Derived.Test.YtbhbekocmpmjfaaGreatDoorK01
import Derived.Lib.SlTrimSet
import Derived.Test.YtbhbekocmpmjfaaGreatDoorK13
namespace Go.Proofs.YtbhbekocmpmjfaaGreatDoor
open Go Go.RowKit

theorem ints_atR (ts : List Int) : ∀ i, i < ts.length → ∀ j, j < 1 → (ts.map (Value.int .i32))[i * 1 + j]? = some (.int .i32 (ts.getD i 0)) := fun i hi j hj => by
  obtain rfl : j = 0 := by omega
  simp [List.getD, hi]
set_option maxRecDepth 100000 in
set_option maxHeartbeats 1000000 in
theorem growR_any (n : Nat) (w : World) (hn : n ≤ 4194304) : Calls Tryz.prog 246 #[.slice none 0 0, .int .i64 n] w fun e w' => ∃ v, e = .returned v ∧ Grew w w' ∧ w'.ownsRow w.heap.size 21 1 v 0 [] := by
  obtain ⟨i0, hi, hz0, hz1, hz2⟩ := info_parts infoRune
  have h1 : ¬ ((n : Int) < 0) := by omega
  by_cases h0 : n = 0
  · subst h0
    go_enter Tryz.func246, Tryz.ntmps246
    go_wp2_with fail
    go_ret
    exact ⟨_, rfl, Grew.refl _, World.ownsRow_nil _ _ _ _⟩
  · have hold : (Builtin.firstCells i0.size 0 (.slice none 0 0)).run Tryz.prog w.drew = .ok ([] : List Value).toArray w.drew := run_firstCells_none w.drew i0.size 0 0 0
    have hGn : n ≤ grownCap w n 0 21 := grownCap_ge w _ _ _
    have hGm := grownCap_le_maxLen w n 0 21 (by unfold maxLen; omega)
    have hrz : ∀ ty, (Builtin.append_ #[23, 3] ty #[.slice none 0 0, .int .i64 (n : Int)]).run Tryz.prog w = .ok (.slice (some ⟨w.heap.size, 0, none⟩) n (grownCap w n 0 21)) (w.drew.alloc (.cells (([] : List Value).toArray ++ Builtin.zeroCells ((Value.int .i32 0).cells) n ++ Builtin.zeroCells ((Value.int .i32 0).cells) (grownCap w n 0 21 - n)) 21)) := fun ty => by
      have h := Lib.run_append_grow_zeros w 23 3 ty 21 i0 _ .i64 .i64 Tryz.underlying23 Tryz.underlying3 hi hz0 none 0 0 [] hold n (by omega) (by rw [hz1]; omega) (by omega) (by omega) (by rw [hz2]; omega) (growslice_fits (by omega) (by rw [hz2]; omega))
      rw [Nat.zero_add] at h
      exact h
    have hown := World.ownsRow_made (base := w.heap.size) (e := 21) (size := 1) w.drew (([] : List Value).toArray ++ Builtin.zeroCells ((Value.int .i32 0).cells) n ++ Builtin.zeroCells ((Value.int .i32 0).cells) (grownCap w n 0 21 - n)) (grownCap w n 0 21) (Nat.le_refl _) hGm (madeZ_size rfl _ _ hGn)
    have hG : Grew w (w.drew.alloc (.cells (([] : List Value).toArray ++ Builtin.zeroCells ((Value.int .i32 0).cells) n ++ Builtin.zeroCells ((Value.int .i32 0).cells) (grownCap w n 0 21 - n)) 21)) := (Grew.refl w).drew.alloc _
    have h2 : ((n : Int) - 0) = n := by omega
    have h3 : (0 : Int) < n := by omega
    have h5 : decide ((0 : Int) < n) = true := by simpa using h3
    have h4 : wrap64 (n : Int) = n := by unfold wrap64; omega
    unfold maxLen at hGm
    have hGi : ((grownCap w n 0 21 : Nat) : Int) ≤ 9223372036854775807 := by omega
    generalize grownCap w n 0 21 = G at *
    generalize w.drew.alloc _ = w1 at *
    go_enter Tryz.func246, Tryz.ntmps246
    go_wp2_with (at_builtin; refine Lib.wpList_append_run _ rfl _ _ _ _ rfl _ _ rfl rfl _ _ (hrz _) ?_)
    go_ret
    exact ⟨_, rfl, hG, hown⟩
/-- a row of rows -/
def RowsR (w : World) (lo hi : Nat) (a : Option Addr) (c : Nat) (ls : List PN) : Prop := RowIn w lo hi a ls.length c 1 (fun i _ => .slice (ls.getD i default).a (ls.getD i default).l.length (ls.getD i default).c)
theorem RowsR.at {w : World} {lo hi : Nat} {a : Option Addr} {c : Nat} {ls : List PN} (h : RowsR w lo hi a c ls) {k : Nat} (hk : k < ls.length) : ∃ b o, a = some ⟨b, o, none⟩ ∧ lo ≤ b ∧ b < hi ∧ w.cell? ⟨b, o + k, none⟩ = some (.slice (ls.getD k default).a (ls.getD k default).l.length (ls.getD k default).c) := by
  obtain ⟨b, o, h1, h2, h3, hc⟩ := h.2 (by omega)
  exact ⟨b, o, h1, h2, h3, by simpa using hc k hk 0 (by omega)⟩
def sumR (ls : List PN) : Nat := (ls.map fun p => p.l.length).sum
theorem sumR_next (ls : List PN) {k : Nat} (hk : k < ls.length) : sumR (ls.take (k + 1)) = sumR (ls.take k) + (ls.getD k default).l.length := by
  unfold sumR
  rw [List.take_succ_eq_append_getElem hk, List.map_append, List.sum_append]
  simp [List.getD, List.getElem?_eq_getElem hk]
theorem sumR_le (ls : List PN) (k : Nat) : sumR (ls.take k) ≤ sumR ls := by
  unfold sumR
  conv => rhs; rw [← List.take_append_drop k ls, List.map_append, List.sum_append]
  omega
def flatR (ls : List PN) : List Int := ls.flatMap PN.l
theorem flatR_len (ls : List PN) : (flatR ls).length = sumR ls := by unfold flatR sumR; rw [List.length_flatMap]
theorem flatR_next (ls : List PN) {k : Nat} (hk : k < ls.length) : flatR (ls.take (k + 1)) = flatR (ls.take k) ++ (ls.getD k default).l := by
  unfold flatR
  rw [List.take_succ_eq_append_getElem hk, List.flatMap_append]
  simp [List.getD, List.getElem?_eq_getElem hk]
set_option maxRecDepth 100000 in
set_option maxHeartbeats 4000000 in
theorem concatR_any (a : Option Addr) (c : Nat) (ls : List PN) (w : World) (hr : RowsR w 0 w.heap.size a c ls) (hin : ∀ p ∈ ls, RunesIn w 0 w.heap.size p.a p.c p.l) (hl : ls.length ≤ 1048576) (hs : sumR ls ≤ 4194304) :
    Calls Tryz.prog 222 #[.slice a ls.length c] w fun e w' => ∃ v, e = .returned v ∧ Grew w w' ∧ w'.ownsRow w.heap.size 21 1 v (flatR ls).length ((flatR ls).map (Value.int .i32)) := by
  have HI := Lib.hid hin
  have HS := Lib.hid hs
  clear hin hs
  go_enter Tryz.func222, Tryz.ntmps222
  go_wp2_with fail
  go_loopw [3, 11] (fun s i wr => ∃ (k m : Nat), k ≤ ls.length ∧ s = .int .i64 m ∧ i = .int .i64 k ∧ Grew w wr ∧ Hid (m = sumR (ls.take k))) (fun _ i _ => ls.length - (intOf i).toNat)
  case atStart => exact ⟨0, 0, by omega, rfl, rfl, Grew.refl _, by show _ = _; simp [sumR]⟩
  case round =>
    obtain ⟨k, m, hk, rfl, rfl, hg, hm⟩ := hrel
    by_cases hlt : k < ls.length
    · obtain ⟨b, o, rfl, _, hb, c0⟩ := RowsR.at (RowIn.agree hr (hg.agree (Nat.le_refl _))) hlt
      have HM : Hid (m + (ls.getD k default).l.length = sumR (ls.take (k + 1))) := by show _ = _; rw [sumR_next ls hlt, hm.out]
      have hle : m + (ls.getD k default).l.length ≤ 4194304 := by rw [HM.out]; exact Nat.le_trans (sumR_le ls _) HS.out
      generalize ls.getD k default = x at *
      have hw : IntKind.i64.wrap ((m : Int) + x.l.length) = ((m + x.l.length : Nat) : Int) := by rw [IntKind.wrap_i64]; omega
      have hnn : ¬ (((m + x.l.length : Nat) : Int) < 0) := by omega
      go_wp2_with fail
      go_roundw
      case rel => exact ⟨k + 1, m + x.l.length, by omega, rfl, by go_num, hg, HM⟩
      case measure => simp [intOf]; omega
    · obtain rfl : k = ls.length := by omega
      have HM : Hid (m = sumR ls) := by show _ = _; rw [hm.out, List.take_length]
      have hmle : m ≤ 4194304 := by rw [HM.out]; exact HS.out
      have GR := Lib.hid (growR_any m wr hmle)
      clear hm
      go_wp2_with fail
      refine GR.out.mono ?_
      rintro e w2 ⟨v, rfl, g2, hown⟩
      have hown' : w2.ownsRow w.heap.size 21 1 v 0 [] := ownsRow_lower hown hg.size
      obtain ⟨va, vc, rfl⟩ := owned_shape hown'
      have G2 := Lib.hid (hg.trans g2)
      have HO := Lib.hid hown'
      clear hown hown' GR HM hmle
      go_wp2_with fail
      go_loopw [6, 27] (fun s i wr2 => ∃ (k : Nat) (va : Option Addr) (vc : Nat), k ≤ ls.length ∧ s = .slice va (flatR (ls.take k)).length vc ∧ i = .int .i64 k ∧ Grew w wr2 ∧ wr2.ownsRow w.heap.size 21 1 (.slice va (flatR (ls.take k)).length vc) (flatR (ls.take k)).length ((flatR (ls.take k)).map (Value.int .i32))) (fun _ i _ => ls.length - (intOf i).toNat)
      case atStart => exact ⟨0, va, vc, by omega, by simp [flatR], rfl, G2.out, by simpa [flatR] using HO.out⟩
      case round =>
        obtain ⟨k, xa, xc, hk, rfl, rfl, hg2, hown2⟩ := hrel
        by_cases hlt : k < ls.length
        · obtain ⟨b, o, rfl, _, hb, c0⟩ := RowsR.at (RowIn.agree hr (hg2.agree (Nat.le_refl _))) hlt
          have hxin := (HI.out _ (getD_mem ls k hlt)).grew hg2 (Nat.le_refl _)
          have HF := Lib.hid (flatR_next ls hlt)
          have hbound : (flatR (ls.take k)).length + (ls.getD k default).l.length ≤ 4194304 := by
            rw [flatR_len, ← sumR_next ls hlt]; exact Nat.le_trans (sumR_le ls _) HS.out
          generalize ls.getD k default = x at *
          have hsz := hg2.size
          generalize flatR (ls.take k) = cur at *
          go_wp2_with (at_builtin; refine wpList_append_row rfl (.tmp 31) (.tmp 32) 23 rfl w.heap.size 21 Tryz.underlying23 infoRune rfl (by decide) (.slice xa cur.length xc) cur.length (cur.map (Value.int .i32)) rfl hown2 x.a x.l.length x.c _ _ _ rfl hxin.1 (x.l.map (Value.int .i32)) (by simp) (ints_atR x.l) (ints_oneCell _ _) (by unfold maxLen; omega) (by omega) hsz ?_; intro v' w4 hown' hgrow _; obtain ⟨va', vc', rfl⟩ := owned_shape hown')
          have G4 := Lib.hid (hg2.grown hgrow (fun k hk => (hown2.lt k hk).1))
          have HO4 := Lib.hid hown'
          clear hown2 hown' hgrow
          go_roundw
          case rel =>
            refine ⟨k + 1, va', vc', by omega, ?_, by go_num, G4.out, ?_⟩
            · rw [HF.out, List.length_append]
            · rw [HF.out, List.length_append, List.map_append]; exact HO4.out
          case measure => simp [intOf]; omega
        · obtain rfl : k = ls.length := by omega
          rw [List.take_length] at hown2
          rw [List.take_length]
          go_wp2_with fail
          go_ret
          exact ⟨_, rfl, hg2, hown2⟩
end Go.Proofs.YtbhbekocmpmjfaaGreatDoor
/-
  DERIVED: THE SHELF's CONTRACTS AT THIS DUMP, IN PLAIN WORDS (tools/lay-plain.mjs out of 'YtbhbekocmpmjfaaGreatDoorShelfRaw.lean', which tools/lay-shelf.mjs wrote): THE SAME DECLARATIONS UNDER THE SAME NAMES: 'import', 'namespace', 'open', 'def', 'theorem' AND NOTHING ELSE: no command of the shelf's: FOR A HAND-IN. Each laying: the table of numbers ('.._ren') and one theorem, a field a fact of the dump's own or the kernel's comparison; each contract: ONE APPLICATION.
-/
namespace Go.Proofs
open Go.Shelf
def Tryz.lays160_ren : Go.Shelf.Ren := ⟨fun | 160 => 204 | 232 => 233 | 231 => 232 | 227 => 234 | 234 => 236 | 233 => 235 | 236 => 238 | 235 => 237 | 228 => 248 | 271 => 251 | 151 => 250 | 197 => 249 | 120 => 265 | 152 => 264 | 260 => 263 | 137 => 271 | 119 => 231 | 224 => 272 | 225 => 273 | 217 => 275 | 266 => 276 | n => n, fun | 9 => 9 | 4 => 4 | 3 => 3 | 5 => 5 | 117 => 228 | 116 => 227 | 0 => 0 | 124 => 231 | 21 => 21 | 105 => 243 | 46 => 238 | 119 => 265 | 139 => 268 | 138 => 267 | n => n, fun | 3 => 0 | 4 => 1 | n => n⟩
theorem Tryz.lays160 : Go.Proofs.Lays.n160 Tryz.prog Tryz.lays160_ren := {
  mixed := by kernel_rfl
  f119 := Tryz.func231.trans (congrArg some (by kernel_rfl))
  f120 := Tryz.func265.trans (congrArg some (by kernel_rfl))
  f137 := Tryz.func271.trans (congrArg some (by kernel_rfl))
  f151 := Tryz.func250.trans (congrArg some (by kernel_rfl))
  f152 := Tryz.func264.trans (congrArg some (by kernel_rfl))
  f160 := Tryz.func204.trans (congrArg some (by kernel_rfl))
  f197 := Tryz.func249.trans (congrArg some (by kernel_rfl))
  f217 := Tryz.func275.trans (congrArg some (by kernel_rfl))
  f224 := Tryz.func272.trans (congrArg some (by kernel_rfl))
  f225 := Tryz.func273.trans (congrArg some (by kernel_rfl))
  f227 := Tryz.func234.trans (congrArg some (by kernel_rfl))
  f228 := Tryz.func248.trans (congrArg some (by kernel_rfl))
  f231 := Tryz.func232.trans (congrArg some (by kernel_rfl))
  f232 := Tryz.func233.trans (congrArg some (by kernel_rfl))
  f233 := Tryz.func235.trans (congrArg some (by kernel_rfl))
  f234 := Tryz.func236.trans (congrArg some (by kernel_rfl))
  f235 := Tryz.func237.trans (congrArg some (by kernel_rfl))
  f236 := Tryz.func238.trans (congrArg some (by kernel_rfl))
  f260 := Tryz.func263.trans (congrArg some (by kernel_rfl))
  f266 := Tryz.func276.trans (congrArg some (by kernel_rfl))
  f271 := Tryz.func251.trans (congrArg some (by kernel_rfl))
  t0 := Tryz.underlying0
  a0 := Tryz.isAgg0
  z0 := Tryz.sizeOf0
  v0 := Tryz.zeroValue0
  t3 := Tryz.underlying3
  a3 := Tryz.isAgg3
  z3 := Tryz.sizeOf3
  v3 := Tryz.zeroValue3
  t4 := Tryz.underlying4
  a4 := Tryz.isAgg4
  z4 := Tryz.sizeOf4
  v4 := Tryz.zeroValue4
  t5 := Tryz.underlying5
  a5 := Tryz.isAgg5
  z5 := Tryz.sizeOf5
  v5 := Tryz.zeroValue5
  t9 := Tryz.underlying9
  a9 := Tryz.isAgg9
  z9 := Tryz.sizeOf9
  v9 := Tryz.zeroValue9
  t21 := Tryz.underlying21
  a21 := Tryz.isAgg21
  z21 := Tryz.sizeOf21
  v21 := Tryz.zeroValue21
  t46 := Tryz.underlying238
  a46 := Tryz.isAgg238
  z46 := Tryz.sizeOf238
  v46 := Tryz.zeroValue238
  t105 := Tryz.underlying243
  a105 := Tryz.isAgg243
  z105 := Tryz.sizeOf243
  v105 := Tryz.zeroValue243
  t116 := Tryz.underlying227
  a116 := Tryz.isAgg227
  z116 := Tryz.sizeOf227
  t117 := Tryz.underlying228
  a117 := Tryz.isAgg228
  z117 := Tryz.sizeOf228
  v117 := Tryz.zeroValue228
  t119 := Tryz.underlying265
  a119 := Tryz.isAgg265
  z119 := Tryz.sizeOf265
  t124 := Tryz.underlying231
  a124 := Tryz.isAgg231
  z124 := Tryz.sizeOf231
  v124 := Tryz.zeroValue231
  t138 := Tryz.underlying267
  a138 := Tryz.isAgg267
  z138 := Tryz.sizeOf267
  v138 := Tryz.zeroValue267
  t139 := Tryz.underlying268
  a139 := Tryz.isAgg268
  z139 := Tryz.sizeOf268
  v139 := Tryz.zeroValue268
  g3 := by kernel_rfl
  g4 := by kernel_rfl }
def Tryz.lays119_ren : Go.Shelf.Ren := ⟨fun | 119 => 231 | n => n, fun | 21 => 21 | 4 => 4 | n => n, fun | n => n⟩
theorem Tryz.lays119 : Go.Proofs.Lays.n119 Tryz.prog Tryz.lays119_ren := {
  mixed := by kernel_rfl
  f119 := Tryz.func231.trans (congrArg some (by kernel_rfl))
  t4 := Tryz.underlying4
  a4 := Tryz.isAgg4
  z4 := Tryz.sizeOf4
  v4 := Tryz.zeroValue4
  t21 := Tryz.underlying21
  a21 := Tryz.isAgg21
  z21 := Tryz.sizeOf21
  v21 := Tryz.zeroValue21 }
end Go.Proofs
/- Keys, values, properties, runes, trees that may be: in plain Lean. -/
namespace Go.Proofs.YtbhbekocmpmjfaaGreatDoor
open Go Go.RowKit

theorem bytes_beq (a b : ByteArray) : (a.toList == b.toList) = decide (a = b) := by
  rw [ByteArray.toList_eq, ByteArray.toList_eq]
  obtain ⟨⟨x⟩⟩ := a
  obtain ⟨⟨y⟩⟩ := b
  rw [Bool.eq_iff_iff]
  simp

def lowB (b : UInt8) : Bool := decide (97 ≤ b.toNat) && decide (b.toNat ≤ 122)
def valB (b : UInt8) : Bool := lowB b || (decide (48 ≤ b.toNat) && decide (b.toNat ≤ 57)) || decide (b.toNat = 45)
/-- a key -/
def isKey (s : ByteArray) : Bool := decide (1 ≤ s.size) && (decide (s.size ≤ 16) && s.data.toList.all lowB)
/-- a value -/
def isVal (s : ByteArray) : Bool := decide (s.size ≤ 32) && s.data.toList.all valB
/-- the order of strings -/
def leS (a b : ByteArray) : Bool := Op.bytesLess a.toList b.toList || a.toList == b.toList
/-- what is wrong with properties that stand behind a key -/
def chkPs (last : ByteArray) : List PropL → Int
  | [] => 0
  | p :: r => if isKey p.1 && isVal p.2 then (if leS p.1 last then 1 else chkPs p.1 r) else 3
/-- what is wrong with properties -/
def checkPs (ps : List PropL) : Int := if 16 < ps.length then 2 else chkPs .empty ps
/-- a rune -/
def isRune (c : Int) : Bool := (decide (0 ≤ c) && decide (c ≤ 55295)) || (decide (57344 ≤ c) && decide (c ≤ 1114111))
/-- what is wrong with runes -/
def checkRs (ts : List Int) : Int := if ts.all isRune then 0 else 4
/-- what is wrong with a node by itself -/
def T.own (t : T) : Int := if checkPs t.ps ≠ 0 then checkPs t.ps else if (t.lf && decide (0 < t.ks.length)) || (!t.lf && decide (0 < t.ts.length)) then 7 else checkRs t.ts
mutual
/-- what is wrong with a tree, in order -/
def T.chk : T → Int
  | .mk lf ps ts ks => if (T.mk lf ps ts ks).own ≠ 0 then (T.mk lf ps ts ks).own else T.chks ks
def T.chks : List T → Int
  | [] => 0
  | k :: r => if T.chk k ≠ 0 then T.chk k else T.chks r
end
theorem T.chk_eq (t : T) : t.chk = if t.own ≠ 0 then t.own else T.chks t.ks := by cases t; simp [T.chk]

theorem trimL_all (l cs : List UInt8) : (Lib.trimLeftS l cs = []) ↔ l.all (cs.contains ·) = true := by
  unfold Lib.trimLeftS
  induction l with
  | nil => simp
  | cons x r ih =>
    rw [List.dropWhile_cons, List.all_cons]
    cases h : cs.contains x with
    | true => simpa using ih
    | false => simp
theorem trim_all (l cs : List UInt8) : (Lib.trimS l cs = []) ↔ l.all (cs.contains ·) = true := by
  unfold Lib.trimS
  rw [trimL_all]
  unfold Lib.trimRightS
  rw [List.all_reverse]
  have key : ∀ m : List UInt8, (m.dropWhile (cs.contains ·)).all (cs.contains ·) = m.all (cs.contains ·) := by
    intro m
    induction m with
    | nil => rfl
    | cons x r ih =>
      rw [List.dropWhile_cons]
      cases h : cs.contains x with
      | true => simp only [↓reduceIte, List.all_cons, h, Bool.true_and]; exact ih
      | false => simp
  rw [key, List.all_reverse]

def lows : ByteArray := ⟨#[97, 98, 99, 100, 101, 102, 103, 104, 105, 106, 107, 108, 109, 110, 111, 112, 113, 114, 115, 116, 117, 118, 119, 120, 121, 122]⟩
def valCs : ByteArray := ⟨#[97, 98, 99, 100, 101, 102, 103, 104, 105, 106, 107, 108, 109, 110, 111, 112, 113, 114, 115, 116, 117, 118, 119, 120, 121, 122, 48, 49, 50, 51, 52, 53, 54, 55, 56, 57, 45]⟩
theorem all_bytes (P : UInt8 → Bool) (h : ∀ n : Fin 256, P (UInt8.ofNat n.val) = true) (b : UInt8) : P b = true := by
  have := h ⟨b.toNat, by exact b.toNat_lt⟩
  simpa using this
theorem lows_has (b : UInt8) : lows.data.toList.contains b = lowB b := by
  have := all_bytes (fun b => lows.data.toList.contains b == lowB b) (of_decide_eq_true (by kernel_rfl)) b
  simpa using this
theorem valCs_has (b : UInt8) : valCs.data.toList.contains b = valB b := by
  have := all_bytes (fun b => valCs.data.toList.contains b == valB b) (of_decide_eq_true (by kernel_rfl)) b
  simpa using this
theorem trim_empty (l cs : List UInt8) : (⟨(Lib.trimS l cs).toArray⟩ : ByteArray).toList.isEmpty = l.all (cs.contains ·) := by
  rw [ByteArray.toList_eq, Bool.eq_iff_iff, ← trim_all]
  simp
theorem trim_key (s : ByteArray) : ((⟨(Lib.trimS s.data.toList lows.data.toList).toArray⟩ : ByteArray).toList.isEmpty) = s.data.toList.all lowB := by
  rw [trim_empty]; congr 1; funext b; exact lows_has b
theorem trim_val (s : ByteArray) : ((⟨(Lib.trimS s.data.toList valCs.data.toList).toArray⟩ : ByteArray).toList.isEmpty) = s.data.toList.all valB := by
  rw [trim_empty]; congr 1; funext b; exact valCs_has b
theorem bytesLess_nil (a : List UInt8) : Op.bytesLess a [] = false := by
  cases a <;> simp [Op.bytesLess]
theorem empty_toList : ByteArray.empty.toList = [] := by rw [ByteArray.toList_eq]; rfl
theorem leS_empty (s : ByteArray) (h : isKey s = true) : leS s .empty = false := by
  have hs : 1 ≤ s.size := by
    have := (Bool.and_eq_true_iff.1 h).1
    simpa using this
  unfold leS
  rw [empty_toList, bytesLess_nil, Bool.false_or, ← empty_toList, bytes_beq]
  refine decide_eq_false (fun e => ?_)
  rw [e] at hs
  exact absurd hs (by decide)
end Go.Proofs.YtbhbekocmpmjfaaGreatDoor
/- slices.IndexFunc, slices.ContainsFunc on runes; glyph.Check: the contracts. -/
namespace Go.Proofs.YtbhbekocmpmjfaaGreatDoor
open Go Go.RowKit

set_option maxHeartbeats 400000 in
theorem indexRunes_any (ts : List Int) (ta : Option Addr) (tc : Nat) (pf : FuncId) (caps : Array Value) (pr : Int → Bool) (w : World)
    (eg : ∀ args w, (callFunc pf args).run Tryz.prog w = .ok (.enter pf args) w)
    (hcall : ∀ p ∈ ts, ∀ w1, Grew w w1 → Calls Tryz.prog pf (#[.int .i32 p] ++ caps) w1 fun e w' => e = .returned (.bool (pr p)) ∧ Grew w1 w')
    (lo hi : Nat) (hp : RunesIn w lo hi ta tc ts) (hh : hi ≤ w.heap.size) (hlen : ts.length ≤ 1048576) :
    Calls Tryz.prog 247 #[.slice ta ts.length tc, .func (.func pf) #[] caps] w fun e w' =>
      e = .returned (.int .i64 (idxOf pr ts)) ∧ Grew w w' := by
  have HC := Lib.hid hcall
  clear hcall
  go_enter Tryz.func247, Tryz.ntmps247
  go_wp2_with fail
  go_loopw [8] (fun i wr => ∃ (k : Nat), k ≤ ts.length ∧ i = .int .i64 k ∧ Grew w wr ∧ ∀ j, j < k → pr (ts.getD j default) = false) (fun i _ => ts.length - (intOf i).toNat)
  case atStart => exact ⟨0, by omega, rfl, Grew.refl _, fun j hj => by omega⟩
  case round =>
    obtain ⟨k, hk1, rfl, hg, hall⟩ := hrel
    have HA := Lib.hid hall
    clear hall
    by_cases hlt : k < ts.length
    · obtain ⟨b, o, rfl, _, hbh, hc0, _⟩ := (hp.grew hg hh).at hlt
      have HC1 := Lib.hid (HC.out _ (getD_mem ts k hlt) wr hg)
      have hd : ts.getD k 0 = ts.getD k default := rfl
      rw [hd] at hc0
      cases hpr : pr (ts.getD k default) with
      | false =>
        have HX : Hid (∀ j, j < k + 1 → pr (ts.getD j default) = false) := fun j hj => by
          rcases Nat.lt_or_ge j k with h | h
          · exact HA.out j h
          · obtain rfl : j = k := by omega
            exact hpr
        rw [hpr] at HC1
        clear hpr HA hd
        generalize ts.getD k default = p at *
        go_wp2_with fail
        refine HC1.out.mono ?_
        rintro e w' ⟨rfl, g1⟩
        go_wp2_with fail
        go_roundw
        case rel => exact ⟨k + 1, by omega, by go_num, hg.trans g1, HX.out⟩
        case measure => simp [intOf]; omega
      | true =>
        have HX : Hid (idxOf pr ts = k) := idxOf_found hlt hpr HA.out
        rw [hpr] at HC1
        clear hpr HA hd
        generalize ts.getD k default = p at *
        go_wp2_with fail
        refine HC1.out.mono ?_
        rintro e w' ⟨rfl, g1⟩
        go_wp2_with fail
        go_ret
        exact ⟨ret_int HX.out.symm, hg.trans g1⟩
    · obtain rfl : k = ts.length := by omega
      have HX : Hid (idxOf pr ts = -1) := idxOf_none HA.out
      clear HA
      go_wp2_with fail
      go_ret
      exact ⟨ret_int HX.out.symm, hg⟩

theorem idx_all (pr : Int → Bool) (ts : List Int) : (idxOf pr ts = -1 ∧ ts.all (fun c => !pr c) = true) ∨ ∃ j : Nat, idxOf pr ts = j ∧ ts.all (fun c => !pr c) = false := by
  unfold idxOf
  cases h : ts.findIdx? pr with
  | none =>
    left
    refine ⟨rfl, ?_⟩
    rw [List.findIdx?_eq_none_iff] at h
    rw [List.all_eq_true]
    intro x hx
    simp [h x hx]
  | some i =>
    right
    refine ⟨i, rfl, ?_⟩
    rw [List.findIdx?_eq_some_iff_getElem] at h
    obtain ⟨h1, h2, _⟩ := h
    rw [List.all_eq_false]
    exact ⟨ts[i], List.getElem_mem h1, by simp [h2]⟩

set_option maxHeartbeats 400000 in
theorem containsRunes_any (ts : List Int) (ta : Option Addr) (tc : Nat) (pf : FuncId) (caps : Array Value) (pr : Int → Bool) (w : World)
    (eg : ∀ args w, (callFunc pf args).run Tryz.prog w = .ok (.enter pf args) w)
    (hcall : ∀ p ∈ ts, ∀ w1, Grew w w1 → Calls Tryz.prog pf (#[.int .i32 p] ++ caps) w1 fun e w' => e = .returned (.bool (pr p)) ∧ Grew w1 w')
    (lo hi : Nat) (hp : RunesIn w lo hi ta tc ts) (hh : hi ≤ w.heap.size) (hlen : ts.length ≤ 1048576) :
    Calls Tryz.prog 229 #[.slice ta ts.length tc, .func (.func pf) #[] caps] w fun e w' =>
      e = .returned (.bool (!ts.all (fun c => !pr c))) ∧ Grew w w' := by
  have C := Lib.hid (indexRunes_any ts ta tc pf caps pr w eg hcall lo hi hp hh hlen)
  clear hcall eg
  rcases idx_all pr ts with ⟨h1, h2⟩ | ⟨j, h1, h2⟩
  · rw [h1] at C
    have H2 := Lib.hid h2
    clear h1 h2
    go_enter Tryz.func229, Tryz.ntmps229
    go_wp2_with fail
    refine C.out.mono ?_
    rintro e w' ⟨rfl, hg⟩
    go_wp2_with fail
    go_ret
    exact ⟨ret_bool (by rw [H2.out]; rfl), hg⟩
  · rw [h1] at C
    have H2 := Lib.hid h2
    clear h1 h2
    go_enter Tryz.func229, Tryz.ntmps229
    go_wp2_with fail
    refine C.out.mono ?_
    rintro e w' ⟨rfl, hg⟩
    go_wp2_with fail
    go_ret
    exact ⟨ret_bool (by rw [H2.out]; simp), hg⟩

theorem valid_isRune (r : Int) : Lib.validRune r = isRune r := by
  unfold Lib.validRune isRune
  rw [Bool.eq_iff_iff]
  simp only [decide_eq_true_eq, Bool.or_eq_true, Bool.and_eq_true]
  omega

set_option maxHeartbeats 400000 in
theorem runeFn_any (p : Int) (w : World) :
    Calls Tryz.prog 230 (#[.int .i32 p] ++ #[]) w fun e w' => e = .returned (.bool (!isRune p)) ∧ Grew w w' := by
  have C := Lib.hid (fun w => Any.utf8_ValidRune Tryz.lays119 p w)
  rw [valid_isRune] at C
  change Hid (∀ w, Calls Tryz.prog 231 _ _ _) at C
  simp only [List.append_toArray, List.cons_append, List.nil_append]
  go_enter Tryz.func230, Tryz.ntmps230
  go_wp2_with fail
  refine (C.out _).mono ?_
  rintro e w' ⟨rfl, rfl⟩
  go_wp2_with fail
  go_ret
  exact ⟨rfl, Grew.refl _⟩

set_option maxHeartbeats 400000 in
theorem check03_any (ts : List Int) (ta : Option Addr) (tc : Nat) (w : World) (lo hi : Nat) (hp : RunesIn w lo hi ta tc ts) (hh : hi ≤ w.heap.size) (hlen : ts.length ≤ 1048576) :
    Calls Tryz.prog 203 #[.slice ta ts.length tc] w fun e w' => e = .returned (.int .i64 (checkRs ts)) ∧ Grew w w' := by
  have C := Lib.hid (containsRunes_any ts ta tc 230 #[] (fun c => !isRune c) w Tryz.call230 (fun p _ w1 _ => runeFn_any p w1) lo hi hp hh hlen)
  have HE : Hid (checkRs ts = if ts.all isRune then 0 else 4) := by show _ = _; rfl
  simp only [Bool.not_not] at C
  have e : (ts.all fun c => isRune c) = ts.all isRune := rfl
  rw [e] at C
  clear e
  cases h : ts.all isRune with
  | true =>
    rw [h] at C HE
    clear h
    go_enter Tryz.func203, Tryz.ntmps203
    go_wp2_with fail
    refine C.out.mono ?_
    rintro e w' ⟨rfl, hg⟩
    go_wp2_with fail
    go_ret
    exact ⟨ret_val (by rw [HE.out]; rfl), hg⟩
  | false =>
    rw [h] at C HE
    clear h
    go_enter Tryz.func203, Tryz.ntmps203
    go_wp2_with fail
    refine C.out.mono ?_
    rintro e w' ⟨rfl, hg⟩
    go_wp2_with fail
    go_ret
    exact ⟨ret_val (by rw [HE.out]; rfl), hg⟩
end Go.Proofs.YtbhbekocmpmjfaaGreatDoor
/- slices.Equal on runes, glyph.Same: the contracts. -/
namespace Go.Proofs.YtbhbekocmpmjfaaGreatDoor
open Go Go.RowKit

set_option maxHeartbeats 400000 in
theorem equalRunes_any (a b : Option Addr) (c d : Nat) (xs ys : List Int) (w : World) (lo hi lo' hi' : Nat) (hx : RunesIn w lo hi a c xs) (hy : RunesIn w lo' hi' b d ys) (hl : xs.length ≤ 1048576) (hl2 : ys.length ≤ 1048576) (hh : hi ≤ w.heap.size) (hh' : hi' ≤ w.heap.size) :
    Calls Tryz.prog 160 #[.slice a xs.length c, .slice b ys.length d] w fun e w' => e = .returned (.bool (decide (xs = ys))) ∧ Grew w w' := by
  by_cases hne : xs.length = ys.length
  · have heq : ((xs.length : Int) != ys.length) = false := by simp [hne]
    have HL := Lib.hid hne
    have hle : xs.length ≤ ys.length := by omega
    clear hne
    go_enter Tryz.func160, Tryz.ntmps160
    go_wp2_with fail
    go_loopw [13] (fun i wr => ∃ (k : Nat), k ≤ xs.length ∧ i = .int .i64 k ∧ Grew w wr ∧ xs.take k = ys.take k) (fun i _ => xs.length - (intOf i).toNat)
    case atStart => exact ⟨0, by omega, rfl, Grew.refl _, by simp⟩
    case round =>
      obtain ⟨k, hk1, rfl, hg, he⟩ := hrel
      have HE := Lib.hid he
      clear he
      by_cases hlt : k < xs.length
      · obtain ⟨b1, o1, rfl, _, _, hc1, _⟩ := (hx.grew hg hh).at hlt
        obtain ⟨b2, o2, rfl, _, _, hc2, _⟩ := (hy.grew hg hh').at (j := k) (by omega)
        have hy1 : (k : Int) < (ys.length : Int) := by omega
        by_cases hxy : xs.getD k 0 = ys.getD k 0
        · have ht : (xs.getD k 0 != ys.getD k 0) = false := by rw [hxy]; simp
          have HX : Hid (xs.take (k + 1) = ys.take (k + 1)) := by
            show _ = _
            rw [take_next0 xs k hlt, take_next0 ys k (by omega), HE.out, hxy]
          clear hxy
          generalize xs.getD k 0 = p at *
          generalize ys.getD k 0 = q at *
          go_wp2_with fail
          go_quiet (fail)
          go_wp2_with fail
          go_roundw
          case rel => exact ⟨k + 1, by omega, by go_num, hg.drewN _, HX.out⟩
          case measure => simp [intOf]; omega
        · have ht : (xs.getD k 0 != ys.getD k 0) = true := by simpa using hxy
          have hne := ne_of_getD hxy
          have HN : Hid (decide (xs = ys) = false) := by show _ = _; simp [hne]
          clear hxy hne
          generalize xs.getD k 0 = p at *
          generalize ys.getD k 0 = q at *
          go_wp2_with fail
          go_quiet (fail)
          go_wp2_with fail
          go_ret
          exact ⟨ret_bool (by rw [HN.out]), hg.drewN _⟩
      · have HN : Hid (decide (xs = ys) = true) := by
          show _ = _
          have := HE.out
          rw [List.take_of_length_le (by omega), List.take_of_length_le (by have := HL.out; omega)] at this
          simp [this]
        go_wp2_with fail
        go_ret
        exact ⟨ret_bool (by rw [HN.out]), hg⟩
  · have heq : ((xs.length : Int) != ys.length) = true := by simp; omega
    have HN : Hid (decide (xs = ys) = false) := by
      show _ = _
      simp only [decide_eq_false_iff_not]
      intro e; exact hne (by rw [e])
    clear hne
    go_enter Tryz.func160, Tryz.ntmps160
    go_wp2_with fail
    go_ret
    exact ⟨ret_bool (by rw [HN.out]), Grew.refl _⟩

set_option maxHeartbeats 400000 in
theorem glyphSame_any (a b : Option Addr) (c d : Nat) (xs ys : List Int) (w : World) (lo hi lo' hi' : Nat) (hx : RunesIn w lo hi a c xs) (hy : RunesIn w lo' hi' b d ys) (hl : xs.length ≤ 1048576) (hl2 : ys.length ≤ 1048576) (hh : hi ≤ w.heap.size) (hh' : hi' ≤ w.heap.size) :
    Calls Tryz.prog 103 #[.slice a xs.length c, .slice b ys.length d] w fun e w' => e = .returned (.bool (decide (xs = ys))) ∧ Grew w w' := by
  have C := Lib.hid (equalRunes_any a b c d xs ys w lo hi lo' hi' hx hy hl hl2 hh hh')
  go_enter Tryz.func103, Tryz.ntmps103
  go_wp2_with fail
  refine C.out.mono ?_
  rintro e w' ⟨rfl, hg⟩
  go_wp2_with fail
  go_ret
  exact ⟨rfl, hg⟩
end Go.Proofs.YtbhbekocmpmjfaaGreatDoor
