/-
  DERIVED: THE SHELF's CONTRACTS AT THIS DUMP, IN PLAIN WORDS (tools/lay-plain.mjs out of 'YtbhbekocmpmjfaaGreatDoorShelfRaw.lean', which tools/lay-shelf.mjs wrote): THE SAME DECLARATIONS UNDER THE SAME NAMES: 'import', 'namespace', 'open', 'def', 'theorem' AND NOTHING ELSE: no command of the shelf's: FOR A HAND-IN. Each laying: the table of numbers ('.._ren') and one theorem, a field a fact of the dump's own or the kernel's comparison; each contract: ONE APPLICATION.
-/
import Derived.Ground.NamesProg
import Derived.Shelf.Small.Utf8
import Derived.Shelf.Strings.SlTrimAscii
import Derived.Test.YtbhbekocmpmjfaaGreatDoorProg
import Derived.Test.YtbhbekocmpmjfaaGreatDoorK01
import Derived.Lib.SlTrimSet
import Derived.Test.YtbhbekocmpmjfaaGreatDoorK07
namespace Go.Proofs
open Go.Shelf
def Tryz.lays160_ren : Go.Shelf.Ren := ⟨fun | 160 => 204 | 232 => 233 | 231 => 232 | 227 => 234 | 234 => 236 | 233 => 235 | 236 => 238 | 235 => 237 | 228 => 248 | 271 => 251 | 151 => 250 | 197 => 249 | 120 => 265 | 152 => 264 | 260 => 263 | 137 => 271 | 119 => 231 | 224 => 272 | 225 => 273 | 217 => 275 | 266 => 276 | n => n, fun | 9 => 9 | 4 => 4 | 3 => 3 | 5 => 5 | 117 => 228 | 116 => 227 | 0 => 0 | 124 => 231 | 21 => 21 | 105 => 243 | 46 => 238 | 119 => 265 | 139 => 268 | 138 => 267 | n => n, fun | 3 => 0 | 4 => 1 | n => n⟩
theorem Tryz.lays160 : Go.Proofs.Lays.n160 Tryz.prog Tryz.lays160_ren := {
  mixed := by kernel_rfl
  f119 := Tryz.func231.trans (congrArg some (by kernel_rfl))
  f120 := Tryz.func265.trans (congrArg some (by kernel_rfl))
  f137 := Tryz.func271.trans (congrArg some (by kernel_rfl))
  f151 := Tryz.func250.trans (congrArg some (by kernel_rfl))
  f152 := Tryz.func264.trans (congrArg some (by kernel_rfl))
  f160 := Tryz.func204.trans (congrArg some (by kernel_rfl))
  f197 := Tryz.func249.trans (congrArg some (by kernel_rfl))
  f217 := Tryz.func275.trans (congrArg some (by kernel_rfl))
  f224 := Tryz.func272.trans (congrArg some (by kernel_rfl))
  f225 := Tryz.func273.trans (congrArg some (by kernel_rfl))
  f227 := Tryz.func234.trans (congrArg some (by kernel_rfl))
  f228 := Tryz.func248.trans (congrArg some (by kernel_rfl))
  f231 := Tryz.func232.trans (congrArg some (by kernel_rfl))
  f232 := Tryz.func233.trans (congrArg some (by kernel_rfl))
  f233 := Tryz.func235.trans (congrArg some (by kernel_rfl))
  f234 := Tryz.func236.trans (congrArg some (by kernel_rfl))
  f235 := Tryz.func237.trans (congrArg some (by kernel_rfl))
  f236 := Tryz.func238.trans (congrArg some (by kernel_rfl))
  f260 := Tryz.func263.trans (congrArg some (by kernel_rfl))
  f266 := Tryz.func276.trans (congrArg some (by kernel_rfl))
  f271 := Tryz.func251.trans (congrArg some (by kernel_rfl))
  t0 := Tryz.underlying0
  a0 := Tryz.isAgg0
  z0 := Tryz.sizeOf0
  v0 := Tryz.zeroValue0
  t3 := Tryz.underlying3
  a3 := Tryz.isAgg3
  z3 := Tryz.sizeOf3
  v3 := Tryz.zeroValue3
  t4 := Tryz.underlying4
  a4 := Tryz.isAgg4
  z4 := Tryz.sizeOf4
  v4 := Tryz.zeroValue4
  t5 := Tryz.underlying5
  a5 := Tryz.isAgg5
  z5 := Tryz.sizeOf5
  v5 := Tryz.zeroValue5
  t9 := Tryz.underlying9
  a9 := Tryz.isAgg9
  z9 := Tryz.sizeOf9
  v9 := Tryz.zeroValue9
  t21 := Tryz.underlying21
  a21 := Tryz.isAgg21
  z21 := Tryz.sizeOf21
  v21 := Tryz.zeroValue21
  t46 := Tryz.underlying238
  a46 := Tryz.isAgg238
  z46 := Tryz.sizeOf238
  v46 := Tryz.zeroValue238
  t105 := Tryz.underlying243
  a105 := Tryz.isAgg243
  z105 := Tryz.sizeOf243
  v105 := Tryz.zeroValue243
  t116 := Tryz.underlying227
  a116 := Tryz.isAgg227
  z116 := Tryz.sizeOf227
  t117 := Tryz.underlying228
  a117 := Tryz.isAgg228
  z117 := Tryz.sizeOf228
  v117 := Tryz.zeroValue228
  t119 := Tryz.underlying265
  a119 := Tryz.isAgg265
  z119 := Tryz.sizeOf265
  t124 := Tryz.underlying231
  a124 := Tryz.isAgg231
  z124 := Tryz.sizeOf231
  v124 := Tryz.zeroValue231
  t138 := Tryz.underlying267
  a138 := Tryz.isAgg267
  z138 := Tryz.sizeOf267
  v138 := Tryz.zeroValue267
  t139 := Tryz.underlying268
  a139 := Tryz.isAgg268
  z139 := Tryz.sizeOf268
  v139 := Tryz.zeroValue268
  g3 := by kernel_rfl
  g4 := by kernel_rfl }
def Tryz.lays119_ren : Go.Shelf.Ren := ⟨fun | 119 => 231 | n => n, fun | 21 => 21 | 4 => 4 | n => n, fun | n => n⟩
theorem Tryz.lays119 : Go.Proofs.Lays.n119 Tryz.prog Tryz.lays119_ren := {
  mixed := by kernel_rfl
  f119 := Tryz.func231.trans (congrArg some (by kernel_rfl))
  t4 := Tryz.underlying4
  a4 := Tryz.isAgg4
  z4 := Tryz.sizeOf4
  v4 := Tryz.zeroValue4
  t21 := Tryz.underlying21
  a21 := Tryz.isAgg21
  z21 := Tryz.sizeOf21
  v21 := Tryz.zeroValue21 }
end Go.Proofs
/- Keys, values, properties, runes, trees that may be: in plain Lean. -/
namespace Go.Proofs.YtbhbekocmpmjfaaGreatDoor
open Go Go.RowKit
theorem bytes_beq (a b : ByteArray) : (a.toList == b.toList) = decide (a = b) := by
 rw [ByteArray.toList_eq, ByteArray.toList_eq]
 obtain ⟨⟨x⟩⟩ := a
 obtain ⟨⟨y⟩⟩ := b
 rw [Bool.eq_iff_iff]
 simp
def lowB (b : UInt8) : Bool := decide (97 ≤ b.toNat) && decide (b.toNat ≤ 122)
def valB (b : UInt8) : Bool := lowB b || (decide (48 ≤ b.toNat) && decide (b.toNat ≤ 57)) || decide (b.toNat = 45)
def isKey (s : ByteArray) : Bool := decide (1 ≤ s.size) && (decide (s.size ≤ 16) && s.data.toList.all lowB)
def isVal (s : ByteArray) : Bool := decide (s.size ≤ 32) && s.data.toList.all valB
def leS (a b : ByteArray) : Bool := Op.bytesLess a.toList b.toList || a.toList == b.toList
def chkPs (last : ByteArray) : List zab → Int
 | [] => 0
 | p :: r => if isKey p.1 && isVal p.2 then (if leS p.1 last then 1 else chkPs p.1 r) else 3
def zaN (ps : List zab) : Int := if 16 < ps.length then 2 else chkPs .empty ps
def isRune (c : Int) : Bool := (decide (0 ≤ c) && decide (c ≤ 55295)) || (decide (57344 ≤ c) && decide (c ≤ 1114111))
def zaP (ts : List Int) : Int := if ts.all isRune then 0 else 4
def T.own (t : T) : Int := if zaN t.ps ≠ 0 then zaN t.ps else if (t.lf && decide (0 < t.ks.length)) || (!t.lf && decide (0 < t.ts.length)) then 7 else zaP t.ts
mutual
/-- what is wrong with a tree, in order -/
def T.chk : T → Int
 | .mk lf ps ts ks => if (T.mk lf ps ts ks).own ≠ 0 then (T.mk lf ps ts ks).own else T.chks ks
def T.chks : List T → Int
 | [] => 0
 | k :: r => if T.chk k ≠ 0 then T.chk k else T.chks r
end
theorem T.chk_eq (t : T) : t.chk = if t.own ≠ 0 then t.own else T.chks t.ks := by cases t; simp [T.chk]
theorem trimL_all (l cs : List UInt8) : (Lib.trimLeftS l cs = []) ↔ l.all (cs.contains ·) = true := by
 unfold Lib.trimLeftS
 induction l with
 | nil => simp
 | cons x r ih =>
  rw [List.dropWhile_cons, List.all_cons]
  cases h : cs.contains x with
  | true => simpa using ih
  | false => simp
theorem trim_all (l cs : List UInt8) : (Lib.trimS l cs = []) ↔ l.all (cs.contains ·) = true := by
 unfold Lib.trimS
 rw [trimL_all]
 unfold Lib.trimRightS
 rw [List.all_reverse]
 have key : ∀ m : List UInt8, (m.dropWhile (cs.contains ·)).all (cs.contains ·) = m.all (cs.contains ·) := by
  intro m
  induction m with
  | nil => rfl
  | cons x r ih =>
   rw [List.dropWhile_cons]
   cases h : cs.contains x with
   | true => simp only [↓reduceIte, List.all_cons, h, Bool.true_and]; exact ih
   | false => simp
 rw [key, List.all_reverse]
def lows : ByteArray := ⟨#[97, 98, 99, 100, 101, 102, 103, 104, 105, 106, 107, 108, 109, 110, 111, 112, 113, 114, 115, 116, 117, 118, 119, 120, 121, 122]⟩
def valCs : ByteArray := ⟨#[97, 98, 99, 100, 101, 102, 103, 104, 105, 106, 107, 108, 109, 110, 111, 112, 113, 114, 115, 116, 117, 118, 119, 120, 121, 122, 48, 49, 50, 51, 52, 53, 54, 55, 56, 57, 45]⟩
theorem all_bytes (P : UInt8 → Bool) (h : ∀ n : Fin 256, P (UInt8.ofNat n.val) = true) (b : UInt8) : P b = true := by
 have := h ⟨b.toNat, by exact b.toNat_lt⟩
 simpa using this
theorem lows_has (b : UInt8) : lows.data.toList.contains b = lowB b := by
 have := all_bytes (fun b => lows.data.toList.contains b == lowB b) (of_decide_eq_true (by kernel_rfl)) b
 simpa using this
theorem valCs_has (b : UInt8) : valCs.data.toList.contains b = valB b := by
 have := all_bytes (fun b => valCs.data.toList.contains b == valB b) (of_decide_eq_true (by kernel_rfl)) b
 simpa using this
theorem trim_empty (l cs : List UInt8) : (⟨(Lib.trimS l cs).toArray⟩ : ByteArray).toList.isEmpty = l.all (cs.contains ·) := by
 rw [ByteArray.toList_eq, Bool.eq_iff_iff, ← trim_all]
 simp
theorem trim_key (s : ByteArray) : ((⟨(Lib.trimS s.data.toList lows.data.toList).toArray⟩ : ByteArray).toList.isEmpty) = s.data.toList.all lowB := by
 rw [trim_empty]; congr 1; funext b; exact lows_has b
theorem trim_val (s : ByteArray) : ((⟨(Lib.trimS s.data.toList valCs.data.toList).toArray⟩ : ByteArray).toList.isEmpty) = s.data.toList.all valB := by
 rw [trim_empty]; congr 1; funext b; exact valCs_has b
theorem bytesLess_nil (a : List UInt8) : Op.bytesLess a [] = false := by
 cases a <;> simp [Op.bytesLess]
theorem empty_toList : ByteArray.empty.toList = [] := by rw [ByteArray.toList_eq]; rfl
theorem leS_empty (s : ByteArray) (h : isKey s = true) : leS s .empty = false := by
 have hs : 1 ≤ s.size := by
  have := (Bool.and_eq_true_iff.1 h).1
  simpa using this
 unfold leS
 rw [empty_toList, bytesLess_nil, Bool.false_or, ← empty_toList, bytes_beq]
 refine decide_eq_false (fun e => ?_)
 rw [e] at hs
 exact absurd hs (by decide)
end Go.Proofs.YtbhbekocmpmjfaaGreatDoor
/- slices.IndexFunc, slices.ContainsFunc on runes; glyph.Check: the contracts. -/
namespace Go.Proofs.YtbhbekocmpmjfaaGreatDoor
open Go Go.RowKit
set_option maxHeartbeats 400000 in
theorem indexRunes_any (ts : List Int) (ta : Option Addr) (tc : Nat) (pf : FuncId) (caps : Array Value) (pr : Int → Bool) (w : World)
  (eg : ∀ args w, (callFunc pf args).run Tryz.prog w = .ok (.enter pf args) w)
  (hcall : ∀ p ∈ ts, ∀ w1, Grew w w1 → Calls Tryz.prog pf (#[.int .i32 p] ++ caps) w1 fun e w' => e = .returned (.bool (pr p)) ∧ Grew w1 w')
  (lo hi : Nat) (hp : RunesIn w lo hi ta tc ts) (hh : hi ≤ w.heap.size) (hlen : ts.length ≤ 1048576) :
  Calls Tryz.prog 247 #[.slice ta ts.length tc, .func (.func pf) #[] caps] w fun e w' =>
   e = .returned (.int .i64 (zbe pr ts)) ∧ Grew w w' := by
 have HC := Lib.hid hcall
 clear hcall
 go_enter Tryz.func247, Tryz.ntmps247
 go_wp2_with fail
 go_loopw [8] (fun i wr => ∃ (k : Nat), k ≤ ts.length ∧ i = .int .i64 k ∧ Grew w wr ∧ ∀ j, j < k → pr (ts.getD j default) = false) (fun i _ => ts.length - (intOf i).toNat)
 case atStart => exact ⟨0, by omega, rfl, Grew.refl _, fun j hj => by omega⟩
 case round =>
  obtain ⟨k, hk1, rfl, hg, hall⟩ := hrel
  have HA := Lib.hid hall
  clear hall
  by_cases hlt : k < ts.length
  ·obtain ⟨b, o, rfl, _, hbh, hc0, _⟩ := (hp.grew hg hh).at hlt
   have HC1 := Lib.hid (HC.out _ (za7 ts k hlt) wr hg)
   have hd : ts.getD k 0 = ts.getD k default := rfl
   rw [hd] at hc0
   cases hpr : pr (ts.getD k default) with
   | false =>
    have HX : Hid (∀ j, j < k + 1 → pr (ts.getD j default) = false) := fun j hj => by
     rcases Nat.lt_or_ge j k with h | h
     ·exact HA.out j h
     ·obtain rfl : j = k := by omega
      exact hpr
    rw [hpr] at HC1
    clear hpr HA hd
    generalize ts.getD k default = p at *
    go_wp2_with fail
    refine HC1.out.mono ?_
    rintro e w' ⟨rfl, g1⟩
    go_wp2_with fail
    go_roundw
    case rel => exact ⟨k + 1, by omega, by go_num, hg.trans g1, HX.out⟩
    case measure => simp [intOf]; omega
   | true =>
    have HX : Hid (zbe pr ts = k) := idxOf_found hlt hpr HA.out
    rw [hpr] at HC1
    clear hpr HA hd
    generalize ts.getD k default = p at *
    go_wp2_with fail
    refine HC1.out.mono ?_
    rintro e w' ⟨rfl, g1⟩
    go_wp2_with fail
    go_ret
    exact ⟨zci HX.out.symm, hg.trans g1⟩
  ·obtain rfl : k = ts.length := by omega
   have HX : Hid (zbe pr ts = -1) := idxOf_none HA.out
   clear HA
   go_wp2_with fail
   go_ret
   exact ⟨zci HX.out.symm, hg⟩
theorem idx_all (pr : Int → Bool) (ts : List Int) : (zbe pr ts = -1 ∧ ts.all (fun c => !pr c) = true) ∨ ∃ j : Nat, zbe pr ts = j ∧ ts.all (fun c => !pr c) = false := by
 unfold zbe
 cases h : ts.findIdx? pr with
 | none =>
  left
  refine ⟨rfl, ?_⟩
  rw [List.findIdx?_eq_none_iff] at h
  rw [List.all_eq_true]
  intro x hx
  simp [h x hx]
 | some i =>
  right
  refine ⟨i, rfl, ?_⟩
  rw [List.findIdx?_eq_some_iff_getElem] at h
  obtain ⟨h1, h2, _⟩ := h
  rw [List.all_eq_false]
  exact ⟨ts[i], List.getElem_mem h1, by simp [h2]⟩
set_option maxHeartbeats 400000 in
theorem containsRunes_any (ts : List Int) (ta : Option Addr) (tc : Nat) (pf : FuncId) (caps : Array Value) (pr : Int → Bool) (w : World)
  (eg : ∀ args w, (callFunc pf args).run Tryz.prog w = .ok (.enter pf args) w)
  (hcall : ∀ p ∈ ts, ∀ w1, Grew w w1 → Calls Tryz.prog pf (#[.int .i32 p] ++ caps) w1 fun e w' => e = .returned (.bool (pr p)) ∧ Grew w1 w')
  (lo hi : Nat) (hp : RunesIn w lo hi ta tc ts) (hh : hi ≤ w.heap.size) (hlen : ts.length ≤ 1048576) :
  Calls Tryz.prog 229 #[.slice ta ts.length tc, .func (.func pf) #[] caps] w fun e w' =>
   e = .returned (.bool (!ts.all (fun c => !pr c))) ∧ Grew w w' := by
 have C := Lib.hid (indexRunes_any ts ta tc pf caps pr w eg hcall lo hi hp hh hlen)
 clear hcall eg
 rcases idx_all pr ts with ⟨h1, h2⟩ | ⟨j, h1, h2⟩
 ·rw [h1] at C
  have H2 := Lib.hid h2
  clear h1 h2
  go_enter Tryz.func229, Tryz.ntmps229
  go_wp2_with fail
  refine C.out.mono ?_
  rintro e w' ⟨rfl, hg⟩
  go_wp2_with fail
  go_ret
  exact ⟨zch (by rw [H2.out]; rfl), hg⟩
 ·rw [h1] at C
  have H2 := Lib.hid h2
  clear h1 h2
  go_enter Tryz.func229, Tryz.ntmps229
  go_wp2_with fail
  refine C.out.mono ?_
  rintro e w' ⟨rfl, hg⟩
  go_wp2_with fail
  go_ret
  exact ⟨zch (by rw [H2.out]; simp), hg⟩
theorem valid_isRune (r : Int) : Lib.validRune r = isRune r := by
 unfold Lib.validRune isRune
 rw [Bool.eq_iff_iff]
 simp only [decide_eq_true_eq, Bool.or_eq_true, Bool.and_eq_true]
 omega
set_option maxHeartbeats 400000 in
theorem runeFn_any (p : Int) (w : World) :
  Calls Tryz.prog 230 (#[.int .i32 p] ++ #[]) w fun e w' => e = .returned (.bool (!isRune p)) ∧ Grew w w' := by
 have C := Lib.hid (fun w => Any.utf8_ValidRune Tryz.lays119 p w)
 rw [valid_isRune] at C
 change Hid (∀ w, Calls Tryz.prog 231 _ _ _) at C
 simp only [List.append_toArray, List.cons_append, List.nil_append]
 go_enter Tryz.func230, Tryz.ntmps230
 go_wp2_with fail
 refine (C.out _).mono ?_
 rintro e w' ⟨rfl, rfl⟩
 go_wp2_with fail
 go_ret
 exact ⟨rfl, Grew.refl _⟩
set_option maxHeartbeats 400000 in
theorem check03_any (ts : List Int) (ta : Option Addr) (tc : Nat) (w : World) (lo hi : Nat) (hp : RunesIn w lo hi ta tc ts) (hh : hi ≤ w.heap.size) (hlen : ts.length ≤ 1048576) :
  Calls Tryz.prog 203 #[.slice ta ts.length tc] w fun e w' => e = .returned (.int .i64 (zaP ts)) ∧ Grew w w' := by
 have C := Lib.hid (containsRunes_any ts ta tc 230 #[] (fun c => !isRune c) w Tryz.call230 (fun p _ w1 _ => runeFn_any p w1) lo hi hp hh hlen)
 have HE : Hid (zaP ts = if ts.all isRune then 0 else 4) := by show _ = _; rfl
 simp only [Bool.not_not] at C
 have e : (ts.all fun c => isRune c) = ts.all isRune := rfl
 rw [e] at C
 clear e
 cases h : ts.all isRune with
 | true =>
  rw [h] at C HE
  clear h
  go_enter Tryz.func203, Tryz.ntmps203
  go_wp2_with fail
  refine C.out.mono ?_
  rintro e w' ⟨rfl, hg⟩
  go_wp2_with fail
  go_ret
  exact ⟨ret_val (by rw [HE.out]; rfl), hg⟩
 | false =>
  rw [h] at C HE
  clear h
  go_enter Tryz.func203, Tryz.ntmps203
  go_wp2_with fail
  refine C.out.mono ?_
  rintro e w' ⟨rfl, hg⟩
  go_wp2_with fail
  go_ret
  exact ⟨ret_val (by rw [HE.out]; rfl), hg⟩
end Go.Proofs.YtbhbekocmpmjfaaGreatDoor
