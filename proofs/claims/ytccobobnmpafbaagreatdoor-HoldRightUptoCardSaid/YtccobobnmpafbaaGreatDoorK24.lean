/- op.split: the contract. -/
import Derived.Test.YtccobobnmpafbaaGreatDoorK23
set_option maxRecDepth 100000
set_option maxHeartbeats 100000000
namespace Go.Proofs.YtccobobnmpafbaaGreatDoor
open Go Go.RowKit
theorem KidsIn.take{w:World}{lo hi:Nat}{a:Option Addr}{c:Nat}{ks:List NT}(h:KidsIn w lo hi a c ks){k:Nat}(hk:k<=ks.length):KidsIn w lo hi a c (ks.take k):=by
 have hl:(ks.take k).length=k:=List.length_take_of_le hk;have h2:=h.1.1.2.1;refine⟨⟨⟨fun e=>?_,?_,h.1.1.2.2⟩,fun hn=>?_⟩,fun r hr=>h.2 r (List.mem_of_mem_take hr)⟩
 ·have:=h.1.1.1 e;omega
 ·omega
 ·obtain⟨b,o,e,h1,h2,hc⟩:=h.1.2 (by omega);refine⟨b,o,e,h1,h2,fun i hi j hj=>?_⟩;have:=hc i (by omega) j hj;rw[this]
  simp[List.getD,show i < k by omega]
theorem KidsIn.drop{w:World}{lo hi b o c:Nat}{x}{l:List NT}(h:KidsIn w lo hi (some ⟨b,o,x⟩) c l)(k:Nat)(hk:k<=c):KidsIn w lo hi (some (Addr.add ⟨b,o,x⟩ (k * 4))) (c - k) (l.drop k):=by
 have h1:=h.1.1.2.1;have h2:=h.1.1.2.2;refine⟨⟨⟨fun e=>by simp at e,by simp;omega,by omega⟩,fun hn=>?_⟩,fun r hr=>h.2 r (List.mem_of_mem_drop hr)⟩;have hn2:0 < l.length:=by simp at hn;omega
 obtain⟨b2,o2,e,h1,h2,hc⟩:=h.1.2 hn2;injection e with e
 injection e with e1 e2 e3
 subst e3;refine⟨b,o+k * 4,by simp[Addr.add],by omega,by omega,fun i hi j hj=>?_⟩;have hi2:k+i < l.length:=by simp at hi;omega
 have:=hc (k+i) hi2 j hj;rw[<- e1,<- e2] at this;rw[show o+k * 4+i * 4+j=o+(k+i) * 4+j by omega,this]
 simp[List.getD,List.getElem?_drop]
theorem kidsIn_empty{w:World}{lo hi b o:Nat}{x}:KidsIn w lo hi (some ⟨b,o,x⟩) 0 []:=⟨⟨⟨(fun e=>by cases e),Nat.le_refl _,Nat.zero_le _⟩,fun h=>absurd h (Nat.lt_irrefl _)⟩,by simp⟩
def NT.withT(n:NT)(a:Option Addr)(c:Nat)(ts:List Int):NT:=.mk n.lf n.pa n.pc n.ps a c ts n.ka n.kc n.ks
def NT.withK(n:NT)(a:Option Addr)(c:Nat)(ks:List NT):NT:=.mk n.lf n.pa n.pc n.ps n.ta n.tc n.ts a c ks
theorem nodeAt_T{w:World}{b:Nat}{n:NT}(h:NodeAt w b 0 n)(a:Option Addr)(c:Nat)(ts:List Int):NodeAt (w.setCell ⟨b,2,none⟩ (.slice a ts.length c)) b 0 (n.withT a c ts):=by
 obtain⟨h0,h1,h2,h3⟩:=h;simp only[Nat.zero_add] at h1 h2 h3;refine⟨?_,?_,?_,?_⟩
 ·rw[zau (by decide)];exact h0
 ·rw[zau (by decide)];exact h1
 ·exact zaw h2
 ·rw[zau (by decide)];exact h3
theorem nodeAt_K{w:World}{b:Nat}{n:NT}(h:NodeAt w b 0 n)(a:Option Addr)(c:Nat)(ks:List NT):NodeAt (w.setCell ⟨b,3,none⟩ (.slice a ks.length c)) b 0 (n.withK a c ks):=by
 obtain⟨h0,h1,h2,h3⟩:=h;simp only[Nat.zero_add] at h1 h2 h3;refine⟨?_,?_,?_,?_⟩
 ·rw[zau (by decide)];exact h0
 ·rw[zau (by decide)];exact h1
 ·rw[zau (by decide)];exact h2
 ·exact zaw h3
theorem nodeAt_oth{w:World}{b b' j:Nat}{n:NT}{v:Value}(hne:b≠b')(h:NodeAt w b 0 n):NodeAt (w.setCell ⟨b',j,none⟩ v) b 0 n:=by
 have e:∀ i,(w.setCell ⟨b',j,none⟩ v).cell? ⟨b,i,none⟩=w.cell? ⟨b,i,none⟩:=fun i=>zav (fun he=>by injection he with h1;omega);unfold NodeAt at h ⊢;simp only[e];exact h
theorem T.bulkAll_set(k:T):∀(l:List T) (i:Nat),i < l.length->T.bulkAll (l.set i k)+(l.getD i default).bulk=T.bulkAll l+k.bulk
 | [],_,h=>absurd h (Nat.not_lt_zero _)
 | x::r,0,_=>by simp only[List.set_cons_zero,T.bulkAll,List.getD_cons_zero];omega
 | x::r,i+1,h=>by
  have:=T.bulkAll_set k r i (by simpa using h);simp only[List.set_cons_succ,T.bulkAll,List.getD_cons_succ];omega
theorem T.bulk_setAt{y y':T}:∀ {p:List Int} {t:T},t.at p=some y->(T.setAt y' t p).bulk+y.bulk=t.bulk+y'.bulk:=by
 intro p
 induction p with
 | nil =>
  intro t h;injection h with h
  subst h
  show y'.bulk+_=_
  omega
 | cons i r ih =>
  intro t h;rw[T.at] at h
  split at h
  ·cases h
  ·rename_i hn
   have h1:=ih h;have h2:=T.bulkAll_set (T.setAt y' (t.ks.getD i.toNat default) r) t.ks i.toNat (by omega);rw[T.setAt,T.bulk,T.bulk_eq t];omega
theorem bulkAll_split(l:List T)(i:Nat):T.bulkAll (l.take i)+T.bulkAll (l.drop i)=T.bulkAll l:=by
 rw[<- T.bulkAll_append,List.take_append_drop]
theorem add_bulk{t m:T}{p:List Int}(h:(addT t p m).2=0):(addT t p m).1.bulk=t.bulk+m.bulk:=by
 obtain⟨_,u,hu,_,_,_,he⟩:=add_ok h;rw[he];have h1:=T.bulk_setAt (y':=.mk u.lf u.ps u.ts (u.ks.take (p.getD (p.length - 1) 0).toNat++m::u.ks.drop (p.getD (p.length - 1) 0).toNat)) hu;have h2:=bulkAll_split u.ks (p.getD (p.length - 1) 0).toNat;rw[T.bulk_eq u,T.bulk,T.bulkAll_append,T.bulkAll] at h1
 show (T.setAt _ t _).bulk=_
 omega
theorem T.first_bulk(k:T)(i:Nat):(k.first i).bulk<=k.bulk:=by
 have h1:=bulkAll_split k.ks i;have h2:(k.ts.take i).length<=k.ts.length:=List.length_take_le' _ _;unfold T.first;rw[T.bulk_eq k]
 split
 ·rw[T.bulk];omega
 ·rw[T.bulk];omega
theorem T.second_bulk(k:T)(i:Nat)(new:List zab):(k.second i new).bulk<=k.bulk+zcb new:=by
 have h1:=bulkAll_split k.ks i;have h2:(k.ts.drop i).length<=k.ts.length:=by rw[List.length_drop];omega
 unfold T.second;rw[T.bulk_eq k]
 split
 ·simp only[T.bulk,T.bulkAll];omega
 ·simp only[T.bulk,List.length_nil];omega
def TwoAt(w0:World)(F S:T)(b1 b2:Nat)(wx:World):Prop:=b1 < wx.heap.size/\(w0.heap.size<=b1/\w0.heap.size<=b2/\b1≠b2)/\Grew w0 wx/\(wx.there b1 0 4/\wx.there b2 0 4)/\∃ f s:NT,NodeAt wx b1 0 f/\NodeAt wx b2 0 s/\f.In wx 0 w0.heap.size/\s.In wx 0 w0.heap.size/\Hid (f.er=F)/\Hid (s.er=S)
theorem twoAt_T{w0 wc:World}{x y:NT}{b1 b2 n1 n2 c1 c2:Nat}{a1 a2:Option Addr}{t1 t2:List Int}{F S:T}(hbb:w0.heap.size<=b1/\w0.heap.size<=b2/\b1≠b2)(g:Grew w0 wc)(htt:wc.there b1 0 4/\wc.there b2 0 4)(na1:NodeAt wc b1 0 x)(na2:NodeAt wc b2 0 y)(hx:x.In w0 0 w0.heap.size)(hy:y.In w0 0 w0.heap.size)(h1:RunesIn w0 0 w0.heap.size a1 c1 t1)(h2:RunesIn w0 0 w0.heap.size a2 c2 t2)(e1:n1=t1.length)(e2:n2=t2.length)(hF:(x.withT a1 c1 t1).er=F)(hS:(y.withT a2 c2 t2).er=S)(hb1:b1 < wc.heap.size)(hb2:b2 < wc.heap.size) :
  TwoAt w0 F S b1 b2 ((wc.setCell ⟨b1,2,none⟩ (.slice a1 n1 c1)).setCell ⟨b2,2,none⟩ (.slice a2 n2 c2)).drew:=by
 subst e1 e2;have gW:Grew w0 ((wc.setCell ⟨b1,2,none⟩ (.slice a1 t1.length c1)).setCell ⟨b2,2,none⟩ (.slice a2 t2.length c2)).drew:=((g.setCell hbb.1 _).setCell hbb.2.1 _).drew;have gd:=(Grew.refl ((wc.setCell ⟨b1,2,none⟩ (.slice a1 t1.length c1)).setCell ⟨b2,2,none⟩ (.slice a2 t2.length c2))).drew;have z1:b1 < ((wc.setCell ⟨b1,2,none⟩ (.slice a1 t1.length c1)).setCell ⟨b2,2,none⟩ (.slice a2 t2.length c2)).heap.size:=by simpa using hb1
 have z2:b2 < ((wc.setCell ⟨b1,2,none⟩ (.slice a1 t1.length c1)).setCell ⟨b2,2,none⟩ (.slice a2 t2.length c2)).heap.size:=by simpa using hb2
 have hX:=NT.In_iff.1 hx;have hY:=NT.In_iff.1 hy;refine⟨z1,hbb,gW,⟨zc4 (zc6 (zc6 htt.1 _ _) _ _) gd z1,zc4 (zc6 (zc6 htt.2 _ _) _ _) gd z2⟩,x.withT a1 c1 t1,y.withT a2 c2 t2,?_,?_,?_,?_,hF,hS⟩
 ·exact NodeAt.grew (nodeAt_oth hbb.2.2 (nodeAt_T na1 a1 c1 t1)) gd z1
 ·exact NodeAt.grew (nodeAt_T (nodeAt_oth hbb.2.2.symm na2) a2 c2 t2) gd z2
 ·exact NT.In.grew (NT.In_iff.2 ⟨hX.1,h1,hX.2.2⟩) gW zQ1
 ·exact NT.In.grew (NT.In_iff.2 ⟨hY.1,h2,hY.2.2⟩) gW zQ1
theorem twoAt_K{w0 wc:World}{x y:NT}{b1 b2 n1 n2 c1 c2:Nat}{a1 a2:Option Addr}{t1 t2:List NT}{F S:T}(hbb:w0.heap.size<=b1/\w0.heap.size<=b2/\b1≠b2)(g:Grew w0 wc)(htt:wc.there b1 0 4/\wc.there b2 0 4)(na1:NodeAt wc b1 0 x)(na2:NodeAt wc b2 0 y)(hx:x.In w0 0 w0.heap.size)(hy:y.In w0 0 w0.heap.size)(h1:KidsIn w0 0 w0.heap.size a1 c1 t1)(h2:KidsIn w0 0 w0.heap.size a2 c2 t2)(e1:n1=t1.length)(e2:n2=t2.length)(hF:(x.withK a1 c1 t1).er=F)(hS:(y.withK a2 c2 t2).er=S)(hb1:b1 < wc.heap.size)(hb2:b2 < wc.heap.size) :
  TwoAt w0 F S b1 b2 ((wc.setCell ⟨b1,3,none⟩ (.slice a1 n1 c1)).setCell ⟨b2,3,none⟩ (.slice a2 n2 c2)).drew:=by
 subst e1 e2;have gW:Grew w0 ((wc.setCell ⟨b1,3,none⟩ (.slice a1 t1.length c1)).setCell ⟨b2,3,none⟩ (.slice a2 t2.length c2)).drew:=((g.setCell hbb.1 _).setCell hbb.2.1 _).drew;have gd:=(Grew.refl ((wc.setCell ⟨b1,3,none⟩ (.slice a1 t1.length c1)).setCell ⟨b2,3,none⟩ (.slice a2 t2.length c2))).drew;have z1:b1 < ((wc.setCell ⟨b1,3,none⟩ (.slice a1 t1.length c1)).setCell ⟨b2,3,none⟩ (.slice a2 t2.length c2)).heap.size:=by simpa using hb1
 have z2:b2 < ((wc.setCell ⟨b1,3,none⟩ (.slice a1 t1.length c1)).setCell ⟨b2,3,none⟩ (.slice a2 t2.length c2)).heap.size:=by simpa using hb2
 have hX:=NT.In_iff.1 hx;have hY:=NT.In_iff.1 hy;refine⟨z1,hbb,gW,⟨zc4 (zc6 (zc6 htt.1 _ _) _ _) gd z1,zc4 (zc6 (zc6 htt.2 _ _) _ _) gd z2⟩,x.withK a1 c1 t1,y.withK a2 c2 t2,?_,?_,?_,?_,hF,hS⟩
 ·exact NodeAt.grew (nodeAt_oth hbb.2.2 (nodeAt_K na1 a1 c1 t1)) gd z1
 ·exact NodeAt.grew (nodeAt_K (nodeAt_oth hbb.2.2.symm na2) a2 c2 t2) gd z2
 ·exact NT.In.grew (NT.In_iff.2 ⟨hX.1,hX.2.1,h1⟩) gW zQ1
 ·exact NT.In.grew (NT.In_iff.2 ⟨hY.1,hY.2.1,h2⟩) gW zQ1
def LaidTwo(w0:World)(x y:NT)(u v:Value)(wx:World):Prop:=∃ b1 b2,u=.pointer (some ⟨b1,0,none⟩)/\v=.pointer (some ⟨b2,0,none⟩)/\(w0.heap.size<=b1/\w0.heap.size<=b2/\b1≠b2)/\Grew w0 wx/\(wx.there b1 0 4/\wx.there b2 0 4)/\NodeAt wx b1 0 x/\NodeAt wx b2 0 y/\b1 < wx.heap.size/\b2 < wx.heap.size
theorem laidTwo1(w0:World)(x y:NT)(t1 t2:TypeId):LaidTwo w0 x y (.pointer (some ⟨w0.heap.size,0,none⟩)) (.pointer (some ⟨w0.heap.size+1,0,none⟩)) ((w0.alloc (.cells x.cells4.toArray t1)).alloc (.cells y.cells4.toArray t2)).drew:=by
 obtain⟨g,r1,q1,r2,q2,_⟩:=zar w0 x.cells4 y.cells4 t1 t2 _ rfl;have gd:=(Grew.refl ((w0.alloc (.cells x.cells4.toArray t1)).alloc (.cells y.cells4.toArray t2))).drew;exact⟨_,_,rfl,rfl,⟨Nat.le_refl _,by omega,by omega⟩,g.trans gd,⟨zc4 q1 gd (by simp;omega),zc4 q2 gd (by simp)⟩,NT.cells4_at.1 (zcj r1 gd (by simp;omega)),NT.cells4_at.1 (zcj r2 gd (by simp)),by simp;omega,by simp⟩
theorem laidTwo2(w0:World)(x y:NT)(t1 t2:TypeId):LaidTwo w0 x y (.pointer (some ⟨w0.heap.size+1,0,none⟩)) (.pointer (some ⟨w0.heap.size,0,none⟩)) ((w0.alloc (.cells y.cells4.toArray t2)).alloc (.cells x.cells4.toArray t1)).drew:=by
 obtain⟨b1,b2,h1,h2,h3,h4,h5,h6,h7,h8,h9⟩:=laidTwo1 w0 y x t2 t1;exact⟨b2,b1,h2,h1,⟨h3.2.1,h3.1,h3.2.2.symm⟩,h4,⟨h5.2,h5.1⟩,h7,h6,h9,h8⟩
theorem zbW(r k : NT)(o : OpL)(w : World)(hr : r.Ok w)(hk : k.Ok w)(ho : o.In w 0 w.heap.size)(hrb : r.er.bulk + k.er.bulk + zcb o.new <= 1048570)(hs : o.er.Small) :
    Calls Tryz.prog 73 #[r.val, k.val, o.val] w (zac (zcW r.er k.er o.er) w) := by
  have later : ∀ {w1}, Grew w w1 -> o.In w1 0 w1.heap.size := fun g => (ho.grew g zQ1).mono zQ1 g.size;have CL := zQ0 (fun(w1 : World) => opLength_any k w1)
  have HM : Hid (zcW r.er k.er o.er = if o.pos < 0 \/ (k.er.len : Int) < o.pos then (T.nilT, 8)
    else if (addT r.er o.path.l (k.er.second o.pos.toNat o.new)).2 ≠ 0 then (T.nilT, (addT r.er o.path.l (k.er.second o.pos.toNat o.new)).2)
    else addT (addT r.er o.path.l (k.er.second o.pos.toNat o.new)).1 o.path.l (k.er.first o.pos.toNat)) := rfl
  generalize zcW r.er k.er o.er = res at *;have HK0 := zQ0 hk;have HR0 := zQ0 hr;have HO0 := zQ0 ho;have HRB := zQ0 hrb;have HPL := zQ0 hs.1.1;have HLK := zQ0 k.lens;clear later hr hk ho hs hrb;have hkv : k.val = .agg #[.bool k.lf, .slice k.pa k.ps.length k.pc, .slice k.ta k.ts.length k.tc, .slice k.ka k.ks.length k.kc] := rfl;rw[hkv] at CL;unfold NT.val OpL.val
  go_enter Tryz.func73, Tryz.ntmps73
  go_upto_region 1 with fail
  generalize hW : (((w.alloc _).alloc _).alloc _).alloc _ = w1;obtain⟨g1, rR, rK, rO, tF, z1⟩ := boxes4 w r.cells4 k.cells4 o.cells NT.nil.cells4 _ _ _ _ w1 hW;clear hW;obtain⟨ov, hov⟩ : ∃ v, o.val = v := ⟨_, rfl⟩
  unfold OpL.val at hov;rw[hov];clear hov;have G01 := zQ0 g1;have HZ := zQ0 z1;have TF := zQ0 tF;have KR := zQ0 (fun(w' : World) (g : Grew w1 w') => NT.cells4_at.1 (zcj rR g (by omega)))
  have KK := fun(w' : World) (g : Grew w1 w') => (have h := NT.cells4_at.1 (zcj rK g (by omega)); have h2 := zcj rO g (by omega); ⟨h.1, by have := h.2.1; rwa [Nat.zero_add] at this, by have := h.2.2.1; rwa [Nat.zero_add] at this, by have := h.2.2.2; rwa [Nat.zero_add] at this, zci h2 (j := 1) rfl, zci h2 (j := 3) rfl, zci h2 (j := 9) rfl⟩ : w'.cell? ⟨w.heap.size + 1, 0, none⟩ = some (.bool k.lf) /\ w'.cell? ⟨w.heap.size + 1, 1, none⟩ = some (.slice k.pa k.ps.length k.pc) /\ w'.cell? ⟨w.heap.size + 1, 2, none⟩ = some (.slice k.ta k.ts.length k.tc) /\ w'.cell? ⟨w.heap.size + 1, 3, none⟩ = some (.slice k.ka k.ks.length k.kc) /\
    w'.cell? ⟨w.heap.size + 2, 1, none⟩ = some (.slice o.path.a o.path.l.length o.path.c) /\ w'.cell? ⟨w.heap.size + 2, 3, none⟩ = some (.int .i64 o.pos) /\ w'.cell? ⟨w.heap.size + 2, 9, none⟩ = some (.slice o.na o.new.length o.nc))
  have KKH := zQ0 KK;clear rR rK rO tF g1 z1
  by_cases hneg : o.pos < 0
  · have t0 : decide (o.pos < 0) = true := by simpa using hneg
    have HN : Hid (res = (T.nilT, 8)) := by show _ = _; rw[HM.out, if_pos (Or.inl hneg)]
    clear hneg HM;obtain⟨_, _, _, _, _, p3, _⟩ := KKH.out w1 (Grew.refl _);clear KK
    go_quiet (fail)
    generalize hD : World.drewN w1 _ = w2;have G12 : Hid (Grew w1 w2) := by show Grew _ _; rw[<- hD]; exact (Grew.refl _).drewN _
    clear hD p3;have t3 : w2.there (w.heap.size + 3) 0 4 := zc4 TF.out G12.out (by have := HZ.out; omega);have HP := zQ0 (zcm (cs := NT.nil.cells4) t3);have HK := zQ0 (zcM (w.heap.size + 3) NT.nil.cells4 0 w2);have FIN := zQ0 (fun w3 (k3 : Keeps (· = w.heap.size + 3) w2 w3) => zcv (x := NT.nil) (r := res) (bx := w.heap.size + 3) (by omega) (by have := HZ.out; omega) G01.out G12.out NT.nil_in (by show _ = _; rw[HN.out]; exact zbS) k3)
    go_wp2_with (refine wpList_store_mid rfl 26 (.tmp 6) (.tmp 22) rfl (w.heap.size + 3) 0 NT.nil.cells4.toArray rfl rfl t3 zbm (NT.cells4_all _) ?_; generalize hF : w2.setCells _ _ _ = wf; have r3 : wf.rangeAt (w.heap.size + 3) 0 NT.nil.cells4 := hF ▸ HP.out; have k3 : Keeps (· = w.heap.size + 3) w2 wf := hF ▸ HK.out; clear hF HP HK)
    have hfin := FIN.out wf k3;rw[HN.out] at hfin;exact bodyPost_ret (v := .tuple #[NT.nil.val, .int .i64 8]) (zcq Tryz.results73 _ wf (w.heap.size + 3) 0 NT.nil.cells4 _ _ rfl rfl r3 Tryz.underlying26 rfl zbm) rfl (by rw[HN.out]; exact hfin)
  · have t0 : decide (o.pos < 0) = false := by simpa using hneg
    obtain⟨m, hm⟩ : ∃ m : Nat, o.pos = m := ⟨o.pos.toNat, by omega⟩
    generalize o.pos = ps at *;subst hm;have g10 : Grew w1 w1.drew := (Grew.refl _).drew;generalize hxl : k.er.len = xl at *;obtain⟨lb, hlb⟩ : ∃ b, decide (xl < m) = b := ⟨_, rfl⟩
    have HXL := zQ0 hxl;clear hxl
    go_region_held3 (fun w' => Grew w1 w') ((first | assumption | exact Grew.trans (by assumption) (by assumption) | exact Grew.trans (by assumption) (Grew.alloc1 _ _)))
      ((first | (go_at_call 122; refine (CL.out _).mono ?_; rintro e w2 ⟨rfl, g2⟩)))
    have G12 := zQ0 (g10.trans g2);clear g10 g2 CL KK
    cases lb with
    | true =>
      have hlt : xl < m := by simpa using hlb
      have HN : Hid (res = (T.nilT, 8)) := by show _ = _; rw[HM.out, if_pos (Or.inr (by omega))]
      clear hlb HM hlt;have t3 : w2.there (w.heap.size + 3) 0 4 := zc4 TF.out G12.out (by have := HZ.out; omega);have HP := zQ0 (zcm (cs := NT.nil.cells4) t3);have HK := zQ0 (zcM (w.heap.size + 3) NT.nil.cells4 0 w2);have FIN := zQ0 (fun w3 (k3 : Keeps (· = w.heap.size + 3) w2 w3) => zcv (x := NT.nil) (r := res) (bx := w.heap.size + 3) (by omega) (by have := HZ.out; omega) G01.out G12.out NT.nil_in (by show _ = _; rw[HN.out]; exact zbS) k3)
      go_wp2_with (refine wpList_store_mid rfl 26 (.tmp 6) (.tmp 22) rfl (w.heap.size + 3) 0 NT.nil.cells4.toArray rfl rfl t3 zbm (NT.cells4_all _) ?_; generalize hF : w2.setCells _ _ _ = wf; have r3 : wf.rangeAt (w.heap.size + 3) 0 NT.nil.cells4 := hF ▸ HP.out; have k3 : Keeps (· = w.heap.size + 3) w2 wf := hF ▸ HK.out; clear hF HP HK)
      have hfin := FIN.out wf k3;rw[HN.out] at hfin;exact bodyPost_ret (v := .tuple #[NT.nil.val, .int .i64 8]) (zcq Tryz.results73 _ wf (w.heap.size + 3) 0 NT.nil.cells4 _ _ rfl rfl r3 Tryz.underlying26 rfl zbm) rfl (by rw[HN.out]; exact hfin)
    | false =>
      have HLE : Hid (m ≤ xl) := by show _ ≤ _; have h : ¬ (xl < m) := by simpa using hlb
                                    omega
      have HM1 : Hid (res = if (addT r.er o.path.l (k.er.second m o.new)).2 ≠ 0 then (T.nilT, (addT r.er o.path.l (k.er.second m o.new)).2) else addT (addT r.er o.path.l (k.er.second m o.new)).1 o.path.l (k.er.first m)) := by
        show _ = _
        have := HLE.out;rw[HM.out, if_neg (by omega)]; rfl
      clear HM hlb;go_upto_region 3 with fail
      have KS := fun(w' : World) (g : Grew w2 w') => KKH.out w' (G12.out.trans g);have g20 : Grew w2 w2.drew := (Grew.refl _).drew
      go_cut [8, 9] (fun s8 s9 wx => LaidTwo w2 k (NT.mk k.lf o.na o.nc o.new none 0 [] none 0 []) s8 s9 wx)
      case first =>
        go_region_held3 (fun w' => Grew w2 w') ((first | with_reducible exact g20 | with_reducible assumption | exact (Grew.alloc1 _ _).drew | exact ((Grew.alloc1 _ _).alloc _).drew)) ((first | fail))
        all_goals (go_wp2_with fail; go_meet)
        all_goals first | exact laidTwo1 w2 k (NT.mk k.lf o.na o.nc o.new none 0 [] none 0 []) _ _ | exact laidTwo2 w2 k (NT.mk k.lf o.na o.nc o.new none 0 [] none 0 []) _ _
      case rest =>
        obtain⟨b1, b2, rfl, rfl, hbb, g23, htt, na1, na2, hz1, hz2⟩ := hcut;clear KS g20;have HB := zQ0 hbb;have HG23 := zQ0 g23;have HT := zQ0 htt;have HN1 := zQ0 na1;have HN2 := zQ0 na2;have HZZ : Hid (b1 < wc.heap.size /\ b2 < wc.heap.size) := ⟨hz1, hz2⟩
        have HKI : Hid (k.In w2 0 w2.heap.size) := (NT.In.grew HK0.out (G01.out.trans G12.out) zQ1).mono zQ1 (G01.out.trans G12.out).size;have HYI : Hid ((NT.mk k.lf o.na o.nc o.new none 0 [] none 0 [] : NT).In w2 0 w2.heap.size) := NT.In_iff.2 ⟨(PropsIn.grew HO0.out.2.2.2.1 (G01.out.trans G12.out) zQ1).mono zQ1 (G01.out.trans G12.out).size, zcI, zby⟩;clear hbb g23 htt na1 na2 hz1 hz2;have hb1 : w2.heap.size <= b1 := HB.out.1;have hb2 : w2.heap.size <= b2 := HB.out.2.1;have hne1 : ¬ b1 = b2 := HB.out.2.2;have hne2 : ¬ b2 = b1 := fun h => hne1 h.symm
        rcases Bool.eq_false_or_eq_true k.lf with hlf | hlf
        · have HML : Hid (m <= k.ts.length) := by show _ <= _; have h1 := HLE.out; have h2 := HXL.out; unfold T.len at h2; rw[NT.er_lf, hlf] at h2; simp at h2; omega
          have HRW : Hid (RunesIn w2 0 w2.heap.size k.ta k.tc k.ts) := (NT.In_iff.1 HKI.out).2.1;have hcap := HRW.out.1.1.2.1;have hm := HML.out;have HLF := zQ0 hlf;have KS := fun(w' : World) (g : Grew w2 w') => KKH.out w' (G12.out.trans g);have gd : Grew w2 wc.drew := HG23.out.drew;have x0 : wc.cell? ⟨w.heap.size + 1, 0, none⟩ = some (.bool k.lf) := (KKH.out wc (G12.out.trans HG23.out)).1;rw[hlf] at x0;have s1 : ∃ v, wc.cell? ⟨b1, 2, none⟩ = some v := by have h := HN1.out.2.2.1; rw[Nat.zero_add] at h; exact⟨_, h⟩
          have s2 : ∃ v, wc.cell? ⟨b2, 2, none⟩ = some v := by have h := HN2.out.2.2.1; rw[Nat.zero_add] at h; exact⟨_, h⟩
          obtain⟨v1, c1⟩ := s1;obtain⟨v2, c2⟩ := s2;have f1 : wc.frozen? ⟨b1, 2, none⟩ = false := by have := (HT.out.1 2 (by decide)).2; simpa using this
          have f2 : wc.frozen? ⟨b2, 2, none⟩ = false := by have := (HT.out.2 2 (by decide)).2; simpa using this
          have q0 : (0 : Int) <= (m : Int) := by omega
          have q2 : (k.ts.length : Int) <= k.tc := by omega
          have q3 : (m : Int) <= k.tc := by omega
          have q6 : (m : Int) <= k.ts.length := by omega
          go_upto_region 5 with fail
          go_cut [35, 40] (fun _ _ wx => TwoAt w2 (k.er.first m) (k.er.second m o.new) b1 b2 wx)
          case first =>
            have hta : k.ta = none \/ ∃ ad, k.ta = some ad := by cases k.ta <;> simp
            rcases hta with hta | ⟨ad, hta⟩
            · obtain⟨hr0, hc0⟩ := HRW.out.1.1.1 hta
              have hm0 : m = 0 := by omega
              have hrn : k.ts = [] := List.eq_nil_of_length_eq_zero hr0;rw[hta, hr0, hc0, hm0] at KS;have HTA := zQ0 (⟨hta, hrn, hc0, hm0⟩ : _ /\ _ /\ _ /\ _);clear hta hr0 hc0 hm0 hrn hcap hm hlf q0 q2 q3 q6
              go_region_held3 (fun w' => Grew w2 w') ((first | with_reducible assumption | exact (Grew.setCell HG23.out hb1 _).drew | exact (Grew.setCell (Grew.setCell HG23.out hb1 _) hb2 _).drew)) ((first | fail))
              all_goals (go_wp2_with fail; go_meet)
              all_goals (obtain⟨hta, hrn, hc0, hm0⟩ := HTA.out; have hlf := HLF.out)
              all_goals exact twoAt_T (a1 := none) (c1 := 0) (t1 := []) (a2 := none) (c2 := 0) (t2 := []) HB.out HG23.out HT.out HN1.out HN2.out HKI.out HYI.out (zcI) (zcI) (rfl) (rfl) (by rw[NT.er_eq, NT.er_eq k]; unfold T.first; simp[NT.withT, hlf, T.lf, T.ps, T.ts, T.ks, hm0, hrn]) (by rw[NT.er_eq, NT.er_eq k]; unfold T.second; simp[NT.withT, hlf, T.lf, T.ts, hm0, hrn]) HZZ.out.1 HZZ.out.2
            · obtain⟨ab, ao, ax⟩ := ad
              have HR2 := HRW.out;rw[hta] at HR2 KS;have HRW2 := zQ0 HR2;have HTA := zQ0 hta;clear HR2 hta
              by_cases hc : k.tc = m
              · have HCM := zQ0 hc
                have hdr : Hid (k.ts.drop m = []) := by show _ = _; rw[List.drop_eq_nil_iff]; omega
                have q7 : (m : Int) <= m := Int.le_refl _;rw[hc] at KS;have q2' : (k.ts.length : Int) <= m := by omega
                clear hcap hm hc hlf q2 q3
                go_region_held3 (fun w' => Grew w2 w') ((first | with_reducible assumption | exact (Grew.setCell HG23.out hb1 _).drew | exact (Grew.setCell (Grew.setCell HG23.out hb1 _) hb2 _).drew)) ((first | fail))
                all_goals (go_wp2_with fail; go_meet)
                all_goals (have hlf := HLF.out; have hc := HCM.out; have hd := hdr.out)
                all_goals exact twoAt_T (a1 := (some ⟨ab, ao, ax⟩)) (c1 := m) (t1 := (k.ts.take m)) (a2 := (some ⟨ab, ao, ax⟩)) (c2 := 0) (t2 := []) HB.out HG23.out HT.out HN1.out HN2.out HKI.out HYI.out (by have h := RunesIn.take HRW2.out HML.out; rwa [hc] at h) (zcH) (by rw[List.length_take_of_le HML.out]) (by have h := congrArg List.length hd; rw[List.length_drop] at h; exact h) (by rw[NT.er_eq, NT.er_eq k]; unfold T.first; simp[NT.withT, hlf, T.lf, T.ps, T.ts, T.ks]) (by rw[NT.er_eq, NT.er_eq k]; unfold T.second; simp[NT.withT, hlf, T.lf, T.ts, hd]) HZZ.out.1 HZZ.out.2
              · have q4 : ¬ k.tc = m := hc
                have q5 : (m : Int) < k.tc := by omega
                clear hcap hm hc hlf
                go_region_held3 (fun w' => Grew w2 w') ((first | with_reducible assumption | exact (Grew.setCell HG23.out hb1 _).drew | exact (Grew.setCell (Grew.setCell HG23.out hb1 _) hb2 _).drew)) ((first | fail))
                all_goals (go_wp2_with fail; go_meet)
                have hlf := HLF.out;exact twoAt_T (a1 := (some ⟨ab, ao, ax⟩)) (c1 := k.tc) (t1 := (k.ts.take m)) (a2 := (some (Addr.add ⟨ab, ao, ax⟩ m))) (c2 := (k.tc - m)) (t2 := (k.ts.drop m)) HB.out HG23.out HT.out HN1.out HN2.out HKI.out HYI.out (RunesIn.take HRW2.out HML.out) (RunesIn.drop HRW2.out m (by omega)) (by rw[List.length_take_of_le HML.out]) (by rw[List.length_drop]) (by rw[NT.er_eq, NT.er_eq k]; unfold T.first; simp[NT.withT, hlf, T.lf, T.ps, T.ts, T.ks]) (by rw[NT.er_eq, NT.er_eq k]; unfold T.second; simp[NT.withT, hlf, T.lf, T.ts]) HZZ.out.1 HZZ.out.2
          case rest =>
            clear KS gd x0 c1 c2 f1 f2 q0 q2 q3 q6 hcap hm hlf;obtain⟨hzb, _, g2x, _, f, s, nf, ns, hf, hs, hfe, hse⟩ := hcut;have G1c := zQ0 (G12.out.trans g2x);have HSB : Hid (s.er.bulk <= k.er.bulk + zcb o.new) := by show _ <= _; rw[hse.out]; exact T.second_bulk _ _ _
            have HFB : Hid (f.er.bulk <= k.er.bulk) := by show _ <= _; rw[hfe.out]; exact T.first_bulk _ _
            have HA1 := zQ0 (zc8 r s o.path.a o.path.c o.path.l wc (NT.Ok.grew HR0.out (G01.out.trans G1c.out)) (by have := HRB.out; omega) (hs.mono zQ1 g2x.size) (by have h1 := HSB.out; have h2 := HRB.out; omega) ((HO0.out.1.1.grew (G01.out.trans G1c.out) zQ1).mono zQ1 (G01.out.trans G1c.out).size) HPL.out);have HF := zQ0 (⟨hf.mono zQ1 g2x.size, nf⟩ : _ /\ _);have hsv := hse.out;have hfv := hfe.out;obtain⟨s0, s1, s2, s3⟩ := ns;rw[Nat.zero_add] at s1 s2 s3;obtain⟨n0, n1, n2, n3⟩ := KR.out wc G1c.out;rw[Nat.zero_add] at n1 n2 n3;obtain⟨_, _, _, _, p1, _, _⟩ := KKH.out wc G1c.out;have HADB := zQ0 (fun h => add_bulk (t := r.er) (m := s.er) (p := o.path.l) h);rw[hsv] at HA1 HADB;rw[hsv] at HSB;generalize addT r.er o.path.l (k.er.second m o.new) = ad at *;obtain⟨ax, ae⟩ := ad;clear g2x hf hs hse nf hfe;unfold zac NT.val at HA1;go_wp2_with fail
            refine HA1.out.mono ?_;rintro e w4 ⟨x1, rfl, g4, hx1, hx1e⟩;have HX1 := zQ0 hx1;have HX1E := zQ0 hx1e.out;have Gc4 := zQ0 g4;clear n0 n1 n2 n3 s0 s1 s2 s3 p1 hx1 hx1e HA1;go_upto_region 8 with fail
            generalize hW : w4.alloc _ = w5;obtain⟨g5, rX, _, z5⟩ := zaq w4 x1.cells4 _ w5 hW;clear hW;have G15 := zQ0 ((G1c.out.trans g4).trans g5);have KX := zQ0 (NT.cells4_at.1 rX);have HX15 : Hid (x1.Ok w5) := ((NT.In.agree HX1.out (g5.agree zQ1 |>.mono (Nat.zero_le _) zQ1)).mono (Nat.zero_le _) g5.size)
            have Gc5 := zQ0 (g4.trans g5);clear g4 g5 rX z5
            by_cases hae : ae = 0
            · subst hae
              have HM2 : Hid (res = addT ax o.path.l (k.er.first m)) := by show _ = _; rw[HM1.out, if_neg (by simp)]
              have hb := HADB.out rfl;have HX1B : Hid (x1.er.bulk <= 1048576) := by show _ <= _; rw[HX1E.out]; have h1 := HSB.out; have h2 := HRB.out; omega
              have HA2 := zQ0 (zc8 x1 f o.path.a o.path.c o.path.l w5 HX15.out HX1B.out (NT.Ok.grew (w := wc) HF.out.1 Gc5.out) (by have h1 := HFB.out; have h2 := HRB.out; omega) ((HO0.out.1.1.grew (G01.out.trans G15.out) zQ1).mono zQ1 (G01.out.trans G15.out).size) HPL.out);rw[HX1E.out, hfv, <- HM2.out] at HA2;unfold NT.val at HA2;obtain⟨x0, x1', x2, x3⟩ := KX.out;rw[Nat.zero_add] at x1' x2 x3;obtain⟨y0, y1, y2, y3⟩ := NodeAt.grew HF.out.2 Gc5.out hzb;rw[Nat.zero_add] at y1 y2 y3;obtain⟨_, _, _, _, p1, _, _⟩ := KKH.out w5 G15.out;clear HM1 HADB hb hsv hfv HX1 HX15 KX HF hzb;go_wp2_with fail
              refine HA2.out.mono ?_;rintro e w6 ⟨y, rfl, g6, hy, hye⟩;have t3 : w6.there (w.heap.size + 3) 0 4 := zc4 TF.out (G15.out.trans g6) (by have := HZ.out; omega);have HP := zQ0 (zcm (cs := y.cells4) t3);have HK := zQ0 (zcM (w.heap.size + 3) y.cells4 0 w6);have HFIN := zQ0 (fun wf (k3 : Keeps (· = w.heap.size + 3) w6 wf) => zcv (x := y) (r := res) (bx := w.heap.size + 3) (by omega) (by have h1 := G15.out.size; have := HZ.out; omega) (G01.out.trans G15.out) g6 hy hye k3);clear x0 x1' x2 x3 y0 y1 y2 y3 p1 hy hye g6 HA2
              go_wp2_with (refine wpList_store_mid rfl 26 (.tmp 6) (.tmp 72) rfl (w.heap.size + 3) 0 y.cells4.toArray rfl rfl t3 zbm (NT.cells4_all _) ?_; generalize hF : w6.setCells _ _ _ = wf; have r3 : wf.rangeAt (w.heap.size + 3) 0 y.cells4 := hF ▸ HP.out; have k3 : Keeps (· = w.heap.size + 3) w6 wf := hF ▸ HK.out; clear hF HP HK)
              exact bodyPost_ret (v := .tuple #[y.val, .int .i64 res.2]) (zcq Tryz.results73 _ wf (w.heap.size + 3) 0 y.cells4 _ _ rfl rfl r3 Tryz.underlying26 rfl zbm) rfl (HFIN.out wf k3)
            · have t9 : (ae != 0) = true := by simpa using hae
              have HN : Hid (res = (T.nilT, ae)) := by show _ = _; rw[HM1.out, if_pos hae]
              clear HM1 HADB hsv hfv HX1 HX15 KX HF hzb;have t3 : w5.there (w.heap.size + 3) 0 4 := zc4 TF.out G15.out (by have := HZ.out; omega);have HP := zQ0 (zcm (cs := NT.nil.cells4) t3);have HK := zQ0 (zcM (w.heap.size + 3) NT.nil.cells4 0 w5);have FIN := zQ0 (fun w3 (k3 : Keeps (· = w.heap.size + 3) w5 w3) => zcv (x := NT.nil) (r := res) (bx := w.heap.size + 3) (by omega) (by have := HZ.out; omega) G01.out G15.out NT.nil_in (by show _ = _; rw[HN.out]; exact zbS) k3)
              go_wp2_with (refine wpList_store_mid rfl 26 (.tmp 6) (.tmp 65) rfl (w.heap.size + 3) 0 NT.nil.cells4.toArray rfl rfl t3 zbm (NT.cells4_all _) ?_; generalize hF : w5.setCells _ _ _ = wf; have r3 : wf.rangeAt (w.heap.size + 3) 0 NT.nil.cells4 := hF ▸ HP.out; have k3 : Keeps (· = w.heap.size + 3) w5 wf := hF ▸ HK.out; clear hF HP HK)
              have hfin := FIN.out wf k3;rw[HN.out] at hfin;exact bodyPost_ret (v := .tuple #[NT.nil.val, .int .i64 ae]) (zcq Tryz.results73 _ wf (w.heap.size + 3) 0 NT.nil.cells4 _ _ rfl rfl r3 Tryz.underlying26 rfl zbm) rfl (by rw[HN.out]; exact hfin)
        · have HML : Hid (m <= k.ks.length) := by show _ <= _; have h1 := HLE.out; have h2 := HXL.out; unfold T.len at h2; rw[NT.er_lf, hlf] at h2; simp at h2; omega
          have HRW : Hid (KidsIn w2 0 w2.heap.size k.ka k.kc k.ks) := (NT.In_iff.1 HKI.out).2.2;have hcap := HRW.out.1.1.2.1;have hm := HML.out;have HLF := zQ0 hlf;have KS := fun(w' : World) (g : Grew w2 w') => KKH.out w' (G12.out.trans g);have gd : Grew w2 wc.drew := HG23.out.drew;have x0 : wc.cell? ⟨w.heap.size + 1, 0, none⟩ = some (.bool k.lf) := (KKH.out wc (G12.out.trans HG23.out)).1;rw[hlf] at x0;have s1 : ∃ v, wc.cell? ⟨b1, 3, none⟩ = some v := by have h := HN1.out.2.2.2; rw[Nat.zero_add] at h; exact⟨_, h⟩
          have s2 : ∃ v, wc.cell? ⟨b2, 3, none⟩ = some v := by have h := HN2.out.2.2.2; rw[Nat.zero_add] at h; exact⟨_, h⟩
          obtain⟨v1, c1⟩ := s1;obtain⟨v2, c2⟩ := s2;have f1 : wc.frozen? ⟨b1, 3, none⟩ = false := by have := (HT.out.1 3 (by decide)).2; simpa using this
          have f2 : wc.frozen? ⟨b2, 3, none⟩ = false := by have := (HT.out.2 3 (by decide)).2; simpa using this
          have q0 : (0 : Int) <= (m : Int) := by omega
          have q2 : (k.ks.length : Int) <= k.kc := by omega
          have q3 : (m : Int) <= k.kc := by omega
          have q6 : (m : Int) <= k.ks.length := by omega
          go_upto_region 6 with fail
          go_cut [47, 52] (fun _ _ wx => TwoAt w2 (k.er.first m) (k.er.second m o.new) b1 b2 wx)
          case first =>
            have hta : k.ka = none \/ ∃ ad, k.ka = some ad := by cases k.ka <;> simp
            rcases hta with hta | ⟨ad, hta⟩
            · obtain⟨hr0, hc0⟩ := HRW.out.1.1.1 hta
              have hm0 : m = 0 := by omega
              have hrn : k.ks = [] := List.eq_nil_of_length_eq_zero hr0;rw[hta, hr0, hc0, hm0] at KS;have HTA := zQ0 (⟨hta, hrn, hc0, hm0⟩ : _ /\ _ /\ _ /\ _);clear hta hr0 hc0 hm0 hrn hcap hm hlf q0 q2 q3 q6
              go_region_held3 (fun w' => Grew w2 w') ((first | with_reducible assumption | exact (Grew.setCell HG23.out hb1 _).drew | exact (Grew.setCell (Grew.setCell HG23.out hb1 _) hb2 _).drew)) ((first | fail))
              all_goals (go_wp2_with fail; go_meet)
              all_goals (obtain⟨hta, hrn, hc0, hm0⟩ := HTA.out; have hlf := HLF.out)
              all_goals exact twoAt_K (a1 := none) (c1 := 0) (t1 := []) (a2 := none) (c2 := 0) (t2 := []) HB.out HG23.out HT.out HN1.out HN2.out HKI.out HYI.out (zby) (zby) (rfl) (rfl) (by rw[NT.er_eq, NT.er_eq k]; unfold T.first; simp[NT.withK, hlf, T.lf, T.ps, T.ts, T.ks, hm0, hrn]) (by rw[NT.er_eq, NT.er_eq k]; unfold T.second; simp[NT.withK, hlf, T.lf, T.ks, hm0, hrn]) HZZ.out.1 HZZ.out.2
            · obtain⟨ab, ao, ax⟩ := ad
              have HR2 := HRW.out;rw[hta] at HR2 KS;have HRW2 := zQ0 HR2;have HTA := zQ0 hta;clear HR2 hta
              by_cases hc : k.kc = m
              · have HCM := zQ0 hc
                have hdr : Hid (k.ks.drop m = []) := by show _ = _; rw[List.drop_eq_nil_iff]; omega
                have q7 : (m : Int) <= m := Int.le_refl _;rw[hc] at KS;have q2' : (k.ks.length : Int) <= m := by omega
                clear hcap hm hc hlf q2 q3
                go_region_held3 (fun w' => Grew w2 w') ((first | with_reducible assumption | exact (Grew.setCell HG23.out hb1 _).drew | exact (Grew.setCell (Grew.setCell HG23.out hb1 _) hb2 _).drew)) ((first | fail))
                all_goals (go_wp2_with fail; go_meet)
                all_goals (have hlf := HLF.out; have hc := HCM.out; have hd := hdr.out)
                all_goals exact twoAt_K (a1 := (some ⟨ab, ao, ax⟩)) (c1 := m) (t1 := (k.ks.take m)) (a2 := (some ⟨ab, ao, ax⟩)) (c2 := 0) (t2 := []) HB.out HG23.out HT.out HN1.out HN2.out HKI.out HYI.out (by have h := KidsIn.take HRW2.out HML.out; rwa [hc] at h) (kidsIn_empty) (by rw[List.length_take_of_le HML.out]) (by have h := congrArg List.length hd; rw[List.length_drop] at h; exact h) (by rw[NT.er_eq, NT.er_eq k]; unfold T.first; simp[NT.withK, hlf, T.lf, T.ps, T.ts, T.ks, List.map_take]) (by rw[NT.er_eq, NT.er_eq k]; unfold T.second; simp[NT.withK, hlf, T.lf, T.ks, hd, <- List.map_drop]) HZZ.out.1 HZZ.out.2
              · have q4 : ¬ k.kc = m := hc
                have q5 : (m : Int) < k.kc := by omega
                clear hcap hm hc hlf
                go_region_held3 (fun w' => Grew w2 w') ((first | with_reducible assumption | exact (Grew.setCell HG23.out hb1 _).drew | exact (Grew.setCell (Grew.setCell HG23.out hb1 _) hb2 _).drew)) ((first | fail))
                all_goals (go_wp2_with fail; go_meet)
                have hlf := HLF.out;exact twoAt_K (a1 := (some ⟨ab, ao, ax⟩)) (c1 := k.kc) (t1 := (k.ks.take m)) (a2 := (some (Addr.add ⟨ab, ao, ax⟩ (m * 4)))) (c2 := (k.kc - m)) (t2 := (k.ks.drop m)) HB.out HG23.out HT.out HN1.out HN2.out HKI.out HYI.out (KidsIn.take HRW2.out HML.out) (KidsIn.drop HRW2.out m (by omega)) (by rw[List.length_take_of_le HML.out]) (by rw[List.length_drop]) (by rw[NT.er_eq, NT.er_eq k]; unfold T.first; simp[NT.withK, hlf, T.lf, T.ps, T.ts, T.ks, List.map_take]) (by rw[NT.er_eq, NT.er_eq k]; unfold T.second; simp[NT.withK, hlf, T.lf, T.ks, List.map_drop]) HZZ.out.1 HZZ.out.2
          case rest =>
            clear KS gd x0 c1 c2 f1 f2 q0 q2 q3 q6 hcap hm hlf;obtain⟨hzb, _, g2x, _, f, s, nf, ns, hf, hs, hfe, hse⟩ := hcut;have G1c := zQ0 (G12.out.trans g2x);have HSB : Hid (s.er.bulk <= k.er.bulk + zcb o.new) := by show _ <= _; rw[hse.out]; exact T.second_bulk _ _ _
            have HFB : Hid (f.er.bulk <= k.er.bulk) := by show _ <= _; rw[hfe.out]; exact T.first_bulk _ _
            have HA1 := zQ0 (zc8 r s o.path.a o.path.c o.path.l wc (NT.Ok.grew HR0.out (G01.out.trans G1c.out)) (by have := HRB.out; omega) (hs.mono zQ1 g2x.size) (by have h1 := HSB.out; have h2 := HRB.out; omega) ((HO0.out.1.1.grew (G01.out.trans G1c.out) zQ1).mono zQ1 (G01.out.trans G1c.out).size) HPL.out);have HF := zQ0 (⟨hf.mono zQ1 g2x.size, nf⟩ : _ /\ _);have hsv := hse.out;have hfv := hfe.out;obtain⟨s0, s1, s2, s3⟩ := ns;rw[Nat.zero_add] at s1 s2 s3;obtain⟨n0, n1, n2, n3⟩ := KR.out wc G1c.out;rw[Nat.zero_add] at n1 n2 n3;obtain⟨_, _, _, _, p1, _, _⟩ := KKH.out wc G1c.out;have HADB := zQ0 (fun h => add_bulk (t := r.er) (m := s.er) (p := o.path.l) h);rw[hsv] at HA1 HADB;rw[hsv] at HSB;generalize addT r.er o.path.l (k.er.second m o.new) = ad at *;obtain⟨ax, ae⟩ := ad;clear g2x hf hs hse nf hfe;unfold zac NT.val at HA1;go_wp2_with fail
            refine HA1.out.mono ?_;rintro e w4 ⟨x1, rfl, g4, hx1, hx1e⟩;have HX1 := zQ0 hx1;have HX1E := zQ0 hx1e.out;have Gc4 := zQ0 g4;clear n0 n1 n2 n3 s0 s1 s2 s3 p1 hx1 hx1e HA1;go_upto_region 8 with fail
            generalize hW : w4.alloc _ = w5;obtain⟨g5, rX, _, z5⟩ := zaq w4 x1.cells4 _ w5 hW;clear hW;have G15 := zQ0 ((G1c.out.trans g4).trans g5);have KX := zQ0 (NT.cells4_at.1 rX);have HX15 : Hid (x1.Ok w5) := ((NT.In.agree HX1.out (g5.agree zQ1 |>.mono (Nat.zero_le _) zQ1)).mono (Nat.zero_le _) g5.size)
            have Gc5 := zQ0 (g4.trans g5);clear g4 g5 rX z5
            by_cases hae : ae = 0
            · subst hae
              have HM2 : Hid (res = addT ax o.path.l (k.er.first m)) := by show _ = _; rw[HM1.out, if_neg (by simp)]
              have hb := HADB.out rfl;have HX1B : Hid (x1.er.bulk <= 1048576) := by show _ <= _; rw[HX1E.out]; have h1 := HSB.out; have h2 := HRB.out; omega
              have HA2 := zQ0 (zc8 x1 f o.path.a o.path.c o.path.l w5 HX15.out HX1B.out (NT.Ok.grew (w := wc) HF.out.1 Gc5.out) (by have h1 := HFB.out; have h2 := HRB.out; omega) ((HO0.out.1.1.grew (G01.out.trans G15.out) zQ1).mono zQ1 (G01.out.trans G15.out).size) HPL.out);rw[HX1E.out, hfv, <- HM2.out] at HA2;unfold NT.val at HA2;obtain⟨x0, x1', x2, x3⟩ := KX.out;rw[Nat.zero_add] at x1' x2 x3;obtain⟨y0, y1, y2, y3⟩ := NodeAt.grew HF.out.2 Gc5.out hzb;rw[Nat.zero_add] at y1 y2 y3;obtain⟨_, _, _, _, p1, _, _⟩ := KKH.out w5 G15.out;clear HM1 HADB hb hsv hfv HX1 HX15 KX HF hzb;go_wp2_with fail
              refine HA2.out.mono ?_;rintro e w6 ⟨y, rfl, g6, hy, hye⟩;have t3 : w6.there (w.heap.size + 3) 0 4 := zc4 TF.out (G15.out.trans g6) (by have := HZ.out; omega);have HP := zQ0 (zcm (cs := y.cells4) t3);have HK := zQ0 (zcM (w.heap.size + 3) y.cells4 0 w6);have HFIN := zQ0 (fun wf (k3 : Keeps (· = w.heap.size + 3) w6 wf) => zcv (x := y) (r := res) (bx := w.heap.size + 3) (by omega) (by have h1 := G15.out.size; have := HZ.out; omega) (G01.out.trans G15.out) g6 hy hye k3);clear x0 x1' x2 x3 y0 y1 y2 y3 p1 hy hye g6 HA2
              go_wp2_with (refine wpList_store_mid rfl 26 (.tmp 6) (.tmp 72) rfl (w.heap.size + 3) 0 y.cells4.toArray rfl rfl t3 zbm (NT.cells4_all _) ?_; generalize hF : w6.setCells _ _ _ = wf; have r3 : wf.rangeAt (w.heap.size + 3) 0 y.cells4 := hF ▸ HP.out; have k3 : Keeps (· = w.heap.size + 3) w6 wf := hF ▸ HK.out; clear hF HP HK)
              exact bodyPost_ret (v := .tuple #[y.val, .int .i64 res.2]) (zcq Tryz.results73 _ wf (w.heap.size + 3) 0 y.cells4 _ _ rfl rfl r3 Tryz.underlying26 rfl zbm) rfl (HFIN.out wf k3)
            · have t9 : (ae != 0) = true := by simpa using hae
              have HN : Hid (res = (T.nilT, ae)) := by show _ = _; rw[HM1.out, if_pos hae]
              clear HM1 HADB hsv hfv HX1 HX15 KX HF hzb;have t3 : w5.there (w.heap.size + 3) 0 4 := zc4 TF.out G15.out (by have := HZ.out; omega);have HP := zQ0 (zcm (cs := NT.nil.cells4) t3);have HK := zQ0 (zcM (w.heap.size + 3) NT.nil.cells4 0 w5);have FIN := zQ0 (fun w3 (k3 : Keeps (· = w.heap.size + 3) w5 w3) => zcv (x := NT.nil) (r := res) (bx := w.heap.size + 3) (by omega) (by have := HZ.out; omega) G01.out G15.out NT.nil_in (by show _ = _; rw[HN.out]; exact zbS) k3)
              go_wp2_with (refine wpList_store_mid rfl 26 (.tmp 6) (.tmp 65) rfl (w.heap.size + 3) 0 NT.nil.cells4.toArray rfl rfl t3 zbm (NT.cells4_all _) ?_; generalize hF : w5.setCells _ _ _ = wf; have r3 : wf.rangeAt (w.heap.size + 3) 0 NT.nil.cells4 := hF ▸ HP.out; have k3 : Keeps (· = w.heap.size + 3) w5 wf := hF ▸ HK.out; clear hF HP HK)
              have hfin := FIN.out wf k3;rw[HN.out] at hfin;exact bodyPost_ret (v := .tuple #[NT.nil.val, .int .i64 ae]) (zcq Tryz.results73 _ wf (w.heap.size + 3) 0 NT.nil.cells4 _ _ rfl rfl r3 Tryz.underlying26 rfl zbm) rfl (by rw[HN.out]; exact hfin)
end Go.Proofs.YtccobobnmpafbaaGreatDoor
