/- A NODE OF A TREE THAT LIES APART IS WRITTEN. -/
import Derived.Test.YtccobobnmpafbaaGreatDoorK04
import Derived.Test.YtccobobnmpafbaaGreatDoorK05
set_option maxRecDepth 100000
set_option maxHeartbeats 100000000
namespace Go.Proofs.YtccobobnmpafbaaGreatDoor
open Go Go.RowKit
def NT.sub:NT->List Int->NT
 | n,[]=>n
 | n,i::r=>NT.sub (n.ks.getD i.toNat default) r
def NT.setAt(y:NT):NT->List Int->NT
 | _,[]=>y
 | n,i::r=>.mk n.lf n.pa n.pc n.ps n.ta n.tc n.ts n.ka n.kc (n.ks.set i.toNat (NT.setAt y (n.ks.getD i.toNat default) r))
def T.setAt(y:T):T->List Int->T
 | _,[]=>y
 | n,i::r=>.mk n.lf n.ps n.ts (n.ks.set i.toNat (T.setAt y (n.ks.getD i.toNat default) r))
def NT.adr:NT->Nat->Nat->List Int->Nat × Nat
 | _,b,o,[]=>(b,o)
 | n,b,o,i::r=>match n.ka with
  | some a=>NT.adr (n.ks.getD i.toNat default) a.block (a.off+i.toNat * 4) r
  | none=>(b,o)
theorem er_getD(l:List NT)(i:Nat):(l.getD i default).er=(l.map NT.er).getD i default:=by
 simp only[List.getD,List.getElem?_map]
 cases l[i]? with
 | none=>rfl
 | some x=>rfl
theorem NT.setAt_er(y:NT)(p:List Int):∀ n:NT,(NT.setAt y n p).er=T.setAt y.er n.er p:=by
 induction p with
 | nil=>intro n;rfl
 | cons i r ih =>
  intro n;rw[NT.setAt,T.setAt,NT.er_eq];simp only[NT.lf_mk,NT.ps_mk,NT.ts_mk,NT.ks_mk,NT.er_lf,NT.er_ps,NT.er_ts,NT.er_ks,List.map_set];rw[ih,er_getD]
theorem T.at_cons{t x:T}{i:Int}{r:List Int}(h:t.at (i::r)=some x):0<=i/\i.toNat < t.ks.length/\(t.ks.getD i.toNat default).at r=some x:=by
 rw[T.at] at h
 split at h
 ·cases h
 ·exact⟨by omega,by omega,h⟩
theorem NT.setAt_cell{y:NT}{r:List Int}(hr:r≠[])(n:NT)(j:Nat):(NT.setAt y n r).cell j=n.cell j:=by
 cases r with
 | nil=>exact absurd rfl hr
 | cons i r =>
  rw[NT.setAt];unfold NT.cell;simp only[NT.lf_mk,NT.pa_mk,NT.pc_mk,NT.ps_mk,NT.ta_mk,NT.tc_mk,NT.ts_mk,NT.ka_mk,NT.kc_mk,NT.ks_mk,List.length_set]
theorem NT.Sep.hole{w:World}(p:List Int):∀ {x:NT} {lo hi:Nat} {t:T} (b0 o0:Nat),x.Sep lo hi->x.In w lo hi->hi<=w.heap.size->p≠[]->x.er.at p=some t ->
  ∃ l h,lo<=l/\l<=h/\h<=hi/\(x.sub p).Sep l h/\(x.sub p).In w l h/\lo<=(x.adr b0 o0 p).1/\(x.adr b0 o0 p).1 < l/\NodeAt w (x.adr b0 o0 p).1 (x.adr b0 o0 p).2 (x.sub p) /\
   ∀(B:Nat),B<=lo->∀(w':World) (y:NT),(∀ k,lo<=k->k < hi->k≠(x.adr b0 o0 p).1->¬(l<=k/\k < h)->w'.heap[k]? = w.heap[k]?)->(∀ q,(q < (x.adr b0 o0 p).2\/(x.adr b0 o0 p).2+4<=q)->w'.cell? ⟨(x.adr b0 o0 p).1,q,none⟩=w.cell? ⟨(x.adr b0 o0 p).1,q,none⟩) ->
    w.heap.size<=w'.heap.size->NodeAt w' (x.adr b0 o0 p).1 (x.adr b0 o0 p).2 y->y.In w' B w'.heap.size->(NT.setAt y x p).In w' B w'.heap.size:=by
 induction p with
 | nil=>intro x lo hi t b0 o0 _ _ _ h;exact absurd rfl h
 | cons i r ih =>
  intro x lo hi t b0 o0 hs hin hsz _ hat;obtain⟨hi0,hil,hat'⟩:=T.at_cons hat;rw[NT.er_ks,List.length_map] at hil;rw[NT.er_ks,<- er_getD] at hat';obtain⟨_,_,a,m,_,f,h1,h2,hp,ht,hk,hf0,hfm,hfh,hks⟩:=hs;have hmono:=mono_of hfm;have hin':=NT.In_iff.1 hin;obtain⟨kb,ko,hka,_,_,hkc⟩:=hin'.2.2.1.2 (by omega);have hkb:=hk kb ko hka (by omega);have hkid:(x.ks.getD i.toNat default).In w (f i.toNat) (f (i.toNat+1)):=(hks _ hil).narrow (hin'.2.2.2 _ (zbd _ _ hil));have m1:=hmono i.toNat (by omega) 0 (Nat.zero_le _);have m2:=hmono x.ks.length zQ1 (i.toNat+1) (by omega);have m3:=hfm _ hil
  have hrest:∀(B0:Nat),B0<=lo->∀(w':World) (l h:Nat) (B:Nat),(∀ k,lo<=k->k < hi->k≠B->¬(l<=k/\k < h)->w'.heap[k]? = w.heap[k]?)->f i.toNat<=l->h<=f (i.toNat+1)->(B=kb\/(f i.toNat<=B/\B < f (i.toNat+1)))->w.heap.size<=w'.heap.size->∀(z:NT),z.In w' B0 w'.heap.size ->
    RowIn w' B0 w'.heap.size x.ka x.ks.length x.kc 4 (fun i' j=>((x.ks.set i.toNat z).getD i' default).cell j)->(NT.mk x.lf x.pa x.pc x.ps x.ta x.tc x.ts x.ka x.kc (x.ks.set i.toNat z)).In w' B0 w'.heap.size:=by
   intro B0 hB0 w' l h B hag hl hh hB hw z hz hrow;refine NT.In_iff.2 ⟨?_,?_,?_,?_⟩
   ·simp only[NT.pa_mk,NT.pc_mk,NT.ps_mk];refine (RowIn.agree (RowIn.narrow hin'.1 hp) (fun k k1 k2=>hag k k1 (by omega) (by omega) (by omega))).mono (by omega) (by omega)
   ·simp only[NT.ta_mk,NT.tc_mk,NT.ts_mk];exact⟨(RowIn.agree (RowIn.narrow hin'.2.1.1 ht) (fun k k1 k2=>hag k k1 (by omega) (by omega) (by omega))).mono (by omega) (by omega),hin'.2.1.2⟩
   ·simp only[NT.ka_mk,NT.kc_mk,NT.ks_mk,List.length_set];exact hrow
   ·simp only[NT.ks_mk];intro k hk';obtain⟨j,hj,rfl⟩:=List.getElem_of_mem hk';have hj':j < x.ks.length:=by simpa using hj
    by_cases hij:i.toNat=j
    ·subst hij;rw[List.getElem_set_self];exact hz
    ·rw[List.getElem_set_ne hij];have e:x.ks.getD j default=x.ks[j]:=by simp[List.getD,List.getElem?_eq_getElem hj']
     have hkj:=(hks _ hj').narrow (hin'.2.2.2 _ (zbd _ _ hj'));rw[e] at hkj;have n1:=hmono j (by omega) 0 (Nat.zero_le _);have n2:=hmono x.ks.length zQ1 (j+1) (by omega);have n3:j < i.toNat->f (j+1)<=f i.toNat:=fun hlt=>hmono i.toNat (by omega) (j+1) (by omega);have n4:i.toNat < j->f (i.toNat+1)<=f j:=fun hlt=>hmono j (by omega) (i.toNat+1) (by omega);have n5:=hfm _ hj'
     exact (hkj.agree (fun k k1 k2=>hag k (by omega) (by omega) (by
      rcases Nat.lt_or_ge j i.toNat with h5 | h5
      ·have:=n3 h5;omega
      ·have:=n4 (by omega);omega) (by
      rcases Nat.lt_or_ge j i.toNat with h5 | h5
      ·have:=n3 h5;omega
      ·have:=n4 (by omega);omega))).mono (by omega) (by omega)
  cases r with
  | nil =>
   have hadr:x.adr b0 o0 [i]=(kb,ko+i.toNat * 4):=by rw[NT.adr,hka];rfl
   have hsub:x.sub [i]=x.ks.getD i.toNat default:=rfl;rw[hadr,hsub];have hnode:NodeAt w kb (ko+i.toNat * 4) (x.ks.getD i.toNat default):=⟨hkc _ hil 0 (by omega),hkc _ hil 1 (by omega),hkc _ hil 2 (by omega),hkc _ hil 3 (by omega)⟩
   refine⟨f i.toNat,f (i.toNat+1),by omega,m3,by omega,hks _ hil,hkid,by show lo<=kb;omega,by show kb < _;omega,hnode,?_⟩;intro B0 hB0 w' y hag hoth hw hny hy;refine hrest B0 hB0 w' _ _ kb hag zQ1 zQ1 (Or.inl rfl) hw y hy ?_;refine⟨hin'.2.2.1.1,fun hn=>⟨kb,ko,hka,by omega,by omega,fun j hj q hq=>?_⟩⟩
   dsimp only
   by_cases hij:i.toNat=j
   ·subst hij;rw[zbf _ _ _ hj];obtain⟨n0,n1,n2,n3⟩:=hny
    match q,hq with
    | 0,_=>exact n0
    | 1,_=>exact n1
    | 2,_=>exact n2
    | 3,_=>exact n3
   ·rw[zbe _ _ _ _ hij];refine (hoth (ko+j * 4+q) ?_).trans (hkc j hj q hq)
    rcases Nat.lt_or_ge j i.toNat with h5 | h5
    ·left;show _ < ko+i.toNat * 4;omega
    ·right;show ko+i.toNat * 4+4<=_;omega
  | cons i2 r2 =>
   obtain⟨l,h,q1,q2,q3,q4,q5,q6,q7,q8,q9⟩:=ih kb (ko+i.toNat * 4) (hks _ hil) hkid (by omega) (by simp) hat';have hadr:x.adr b0 o0 (i::i2::r2)=(x.ks.getD i.toNat default).adr kb (ko+i.toNat * 4) (i2::r2):=by rw[NT.adr,hka]
   have hsub:x.sub (i::i2::r2)=(x.ks.getD i.toNat default).sub (i2::r2):=rfl;rw[hadr,hsub];generalize hA:(x.ks.getD i.toNat default).adr kb (ko+i.toNat * 4) (i2::r2)=A at *;refine⟨l,h,by omega,q2,by omega,q4,q5,by omega,q7,q8,?_⟩;intro B0 hB0 w' y hag hoth hw hny hy;have hz:=q9 B0 (by omega) w' y (fun k k1 k2 k3 k4=>hag k (by omega) (by omega) k3 k4) hoth hw hny hy;rw[NT.setAt];refine hrest B0 hB0 w' l h A.1 hag q1 q3 (Or.inr ⟨q6,by omega⟩) hw _ hz ?_;have hrow:=(RowIn.agree (RowIn.narrow hin'.2.2.1 hk) (fun k k1 k2=>hag k (by omega) (by omega) (by omega) (by omega)):RowIn w' a m x.ka x.ks.length x.kc 4 (fun i j=>(x.ks.getD i default).cell j)).mono (show B0<=a by omega) (show m<=w'.heap.size by omega);refine⟨hrow.1,fun hn=>?_⟩;obtain⟨b,o,e,g1,g2,hc⟩:=hrow.2 hn;refine⟨b,o,e,g1,g2,fun j hj q hq=>?_⟩;rw[hc j hj q hq]
   dsimp only
   by_cases hij:i.toNat=j
   ·subst hij;rw[zbf _ _ _ hj,NT.setAt_cell (by simp)]
   ·rw[zbe _ _ _ _ hij]
def AtEndsH(n:NT)(b o:Nat)(p:List Int)(lo hi:Nat)(w:World)(e:Ending)(w':World):Prop :=
 Grew w w'/\((e=.returned (.tuple #[.pointer (some ⟨(n.adr b o p).1,(n.adr b o p).2,none⟩),.int .i64 0])/\NodeAt w' (n.adr b o p).1 (n.adr b o p).2 (n.sub p)/\(n.sub p).In w' lo hi/\(n.adr b o p).1 < w'.heap.size/\Hid (n.er.at p=some (n.sub p).er))\/(e=.returned (.tuple #[.pointer none,.int .i64 5])/\Hid (n.er.at p=none)))
theorem atEndsH_none{n:NT}{b o:Nat}{p:List Int}{lo hi:Nat}{w w':World}(hg:Grew w w')(h:Hid (n.er.at p=none)):AtEndsH n b o p lo hi w (.returned (.tuple #[.pointer none,.int .i64 5])) w':=⟨hg,Or.inr ⟨rfl,h⟩⟩
theorem atEndsH_some{n:NT}{b0 o0:Nat}{p:List Int}{lo hi:Nat}{w w':World}{b o:Nat}{x:NT}(hg:Grew w w')(h1:NodeAt w' b o x)(h2:x.In w' lo hi)(h3:b < w'.heap.size)(h:Hid (n.er.at p=some x.er))(ha:Hid (n.adr b0 o0 p=(b,o)))(hs:Hid (n.sub p=x)):AtEndsH n b0 o0 p lo hi w (.returned (.tuple #[.pointer (some ⟨b,o,none⟩),.int .i64 0])) w':=by
 refine⟨hg,Or.inl ?_⟩;rw[ha.out,hs.out];exact⟨rfl,h1,h2,h3,h⟩
theorem treeAtH_any(n:NT)(b o:Nat)(pa:Option Addr)(pc:Nat)(p:List Int)(w:World)(lo hi plo phi:Nat)(hbx:NodeAt w b o n)(hbs:b < w.heap.size)(hn:n.In w lo hi)(hhi:hi<=w.heap.size)(hp:IntsIn w plo phi pa pc p)(hphi:phi<=w.heap.size)(hl:p.length<=1048576) :
  Calls Tryz.prog 150 #[.pointer (some ⟨b,o,none⟩),.slice pa p.length pc] w (AtEndsH n b o p lo hi w):=by
 go_enter Tryz.func150,Tryz.ntmps150
 go_wp2_with fail
 go_loopw [0,10] (fun t i wr=>∃(k b' o':Nat) (x:NT),k<=p.length/\i=.int .i64 k/\t=.pointer (some ⟨b',o',none⟩)/\Grew w wr/\NodeAt wr b' o' x/\b' < wr.heap.size/\x.In wr lo hi/\Hid (n.er.at p=x.er.at (p.drop k))/\Hid (n.adr b o p=x.adr b' o' (p.drop k))/\Hid (n.sub p=x.sub (p.drop k))) (fun _ i _=>p.length - (intOf i).toNat)
 case atStart=>exact⟨0,b,o,n,by omega,rfl,rfl,Grew.refl _,hbx,hbs,hn,(by show _=_;rfl),(by show _=_;rfl),(by show _=_;rfl)⟩
 case round =>
  obtain⟨k,b',o',x,hk1,rfl,rfl,hg,hbx',hbs',hx,hH,hA,hS⟩:=hrel;clear hbx hn
  by_cases hlt:k < p.length
  ·obtain⟨pb,po,rfl,_,hpb,hpc⟩:=(hp.grew hg hphi).at hlt;have hD:=zaZ p k hlt;obtain⟨d0,d1,d2,d3⟩:=id hbx';obtain⟨ka,hka⟩:∃ y,x.ka=y:=⟨_,rfl⟩
   rw[hka] at d3;have HKA:=zQ0 hka;clear hka;have HK:=zQ0 ((NT.In_iff.1 hx).2.2);have e0:p.getD k default=p.getD k 0:=rfl;rw[e0] at hD;generalize p.getD k 0=i at *
   by_cases h0:i < 0
   ·have HN:Hid (n.er.at p=none):=by
     show _=_
     rw[hH.out,hD,T.at,if_pos (Or.inl h0)]
    clear hD e0 hH hA hS;have ht:decide (i < 0)=true:=by simpa using h0
    go_wp2_with fail
    go_ret2
    exact atEndsH_none hg HN
   ·have h0':¬ i < 0:=h0
    by_cases h1:(x.ks.length:Int)<=i
    ·have HN:Hid (n.er.at p=none):=by
      show _=_
      rw[hH.out,hD,T.at,if_pos (Or.inr (by simpa using h1))]
     clear hD e0 hH hA hS;have ht:decide (i < 0)=false:=by simpa using h0
     have ht2:decide ((x.ks.length:Int)<=i)=true:=by simpa using h1
     go_wp2_with fail
     go_ret2
     exact atEndsH_none hg HN
    ·obtain⟨m,rfl⟩:∃ m:Nat,i=m:=⟨i.toNat,by omega⟩
     have hm:m < x.ks.length:=by omega
     have HN:Hid (n.er.at p=(x.ks.getD m default).er.at (p.drop (k+1))):=by
      show _=_
      rw[hH.out,hD,T.at,if_neg (by simp only[NT.er_ks,List.length_map];omega)]
      simp[List.getD,hm]
     have hk:=HK.out.at hm;obtain⟨b2,o2,hka2,hb1,hb2,hc0,hc1,hc2,hc3⟩:=hk;obtain rfl:ka=some ⟨b2,o2,none⟩:=by rw[<- HKA.out];exact hka2
     have HA:Hid (n.adr b o p=(x.ks.getD m default).adr b2 (o2+m * 4) (p.drop (k+1))):=by
      show _=_
      rw[hA.out,hD,NT.adr,HKA.out];rfl
     have HS:Hid (n.sub p=(x.ks.getD m default).sub (p.drop (k+1))):=by
      show _=_
      rw[hS.out,hD,NT.sub];rfl
     have hN2:NodeAt wr b2 (o2+m * 4) (x.ks.getD m default):=⟨hc0,hc1,hc2,hc3⟩
     have hx2:=HK.out.2 _ (zbd x.ks m hm);have hz2:b2 < wr.heap.size:=by have:=hg.size;omega
     clear hD e0 hH hA hS hka2 hc0 hc1 hc2 hc3 hbx';generalize x.ks.getD m default=y at *;have ht:decide ((m:Int) < 0)=false:=by simp
     have ht2:decide ((x.ks.length:Int)<=(m:Int))=false:=by simpa using h1
     have hm2:(m:Int) < x.ks.length:=by omega
     go_wp2_with fail
     go_roundw
     case rel=>exact⟨k+1,b2,o2+m * 4,y,by omega,by go_num,rfl,hg,hN2,hz2,hx2,HN,HA,HS⟩
     case measure=>simp[intOf];omega
  ·obtain rfl:p.length=k:=by omega
   have HN:Hid (n.er.at p=some x.er):=by
    show _=_
    rw[hH.out,List.drop_of_length_le zQ1,T.at]
   have HA:Hid (n.adr b o p=(b',o')):=by
    show _=_
    rw[hA.out,List.drop_of_length_le zQ1];rfl
   have HS:Hid (n.sub p=x):=by
    show _=_
    rw[hS.out,List.drop_of_length_le zQ1];rfl
   have hlt3:¬ (p.length:Int) < p.length:=by omega
   clear hH hA hS;go_wp2_with fail
   go_ret2
   exact atEndsH_some hg hbx' hx hbs' HN HA HS
abbrev How:=T->Sum T Int
def HowEnds(how:How)(B:Nat)(y:NT)(l h b o:Nat)(w:World)(e:Ending)(w':World):Prop :=
 Keeps (fun k=>k=b\/(l<=k/\k < h)) w w' /\
 ((∃ y':NT,e=.returned (.int .i64 0)/\NodeAt w' b o y'/\y'.In w' B w'.heap.size/\(∀ q,(q < o\/o+4<=q)->w'.cell? ⟨b,q,none⟩=w.cell? ⟨b,q,none⟩)/\Hid (how y.er=.inl y'.er))\/∃ c:Int,c≠0/\e=.returned (.int .i64 c)/\Hid (how y.er=.inr c))
def zaM(t:T)(p:List Int)(how:How):T × Int:=match t.at p with
 | none=>(T.mk false [] [] [],5)
 | some y=>match how y with
  | .inl y'=>(T.setAt y' t p,0)
  | .inr c=>(T.mk false [] [] [],c)
def zac(r:T × Int)(w:World)(e:Ending)(w':World):Prop:=∃ x:NT,e=.returned (.tuple #[x.val,.int .i64 r.2])/\Grew w w'/\x.In w' w.heap.size w'.heap.size/\Hid (x.er=r.1)
def NT.cells4(n:NT):List Value:=[.bool n.lf,.slice n.pa n.ps.length n.pc,.slice n.ta n.ts.length n.tc,.slice n.ka n.ks.length n.kc]
theorem NT.cells4_len(n:NT):n.cells4.length=4:=rfl
theorem NT.cells4_one(n:NT):∀ u∈n.cells4,u.oneCell'=true:=by
 intro u hu;simp only[NT.cells4,List.mem_cons,List.not_mem_nil,or_false] at hu
 rcases hu with rfl | rfl | rfl | rfl
 all_goals rfl
theorem NT.cells4_all(n:NT):n.cells4.toArray.all (·.oneCell')=true:=by
 rw[Array.all_eq_true_iff_forall_mem];intro v hv;exact n.cells4_one v (by simpa using hv)
theorem boxFill{w F:World}{cs:List Value}{ds:Array Value}{t:TypeId}(hF:(w.alloc (.cells ds t)).setCells w.heap.size 0 cs=F)(hl:ds.size=cs.length):F.rangeAt w.heap.size 0 cs/\Grew w F/\w.heap.size < F.heap.size/\F.there w.heap.size 0 cs.length/\∀ j,F.frozen? ⟨w.heap.size,j,none⟩=false:=by
 subst hF;have ht:=zc5 (Grew.refl (w.alloc (.cells ds t)));rw[hl] at ht;have hk:=zcM w.heap.size cs 0 (w.alloc (.cells ds t));refine⟨zcm ht,(Grew.alloc1 w _).keep hk (fun x hx=>by omega),?_,World.there_setCells ht w.heap.size 0 cs,fun j=>?_⟩
 ·have:=hk.size;rw[World.size_alloc] at this;omega
 ·rw[World.frozen?_setCells,World.frozen?_alloc_at _ _ _ _ rfl]
theorem NT.cells4_at{n:NT}{w:World}{b:Nat}:w.rangeAt b 0 n.cells4 ↔ NodeAt w b 0 n:=by
 constructor
 ·intro h;exact⟨zci h (j:=0) rfl,zci h (j:=1) rfl,zci h (j:=2) rfl,zci h (j:=3) rfl⟩
 ·rintro⟨h0,h1,h2,h3⟩ j v hj;rw[Nat.zero_add]
  match j,hj with
  | 0,hj=>obtain rfl:=Option.some.inj hj;exact h0
  | 1,hj=>obtain rfl:=Option.some.inj hj;exact h1
  | 2,hj=>obtain rfl:=Option.some.inj hj;exact h2
  | 3,hj=>obtain rfl:=Option.some.inj hj;exact h3
theorem zbm:(Tryz.prog.info? 26).map (·.size)=some 4:=by kernel_rfl
theorem adr_soft{w:World}(p:List Int):∀ {x:NT} {lo hi:Nat} {t:T} (b o:Nat),x.Own w lo hi->(∀ j,w.frozen? ⟨b,j,none⟩=false)->x.er.at p=some t->(∀ j,w.frozen? ⟨(x.adr b o p).1,j,none⟩=false)/\(x.sub p).Soft w:=by
 induction p with
 | nil=>intro x lo hi t b o hx hb _;exact⟨hb,hx.2⟩
 | cons i r ih =>
  intro x lo hi t b o hx hb hat;obtain⟨hi0,hil,hat'⟩:=T.at_cons hat;rw[NT.er_ks,List.length_map] at hil;rw[NT.er_ks,<- er_getD] at hat';have hin:=NT.In_iff.1 hx.1;have hsf:=NT.Soft_iff.1 hx.2;obtain⟨kb,ko,hka,_,_,_⟩:=hin.2.2.1.2 (by omega);have hm:=zbd x.ks i.toNat hil;have:=ih kb (ko+i.toNat * 4) (⟨hin.2.2.2 _ hm,hsf.2.2.2 _ hm⟩:(x.ks.getD i.toNat default).Own w lo hi) (fun j=>hsf.2.2.1 (by omega) _ hka j) hat';rw[NT.adr,hka,NT.sub];exact this
theorem room_sub{w:World}(p:List Int):∀ {x:NT} {t:T},x.Room w->x.er.at p=some t->(x.sub p).Room w:=by
 induction p with
 | nil=>intro x t h _;exact h
 | cons i r ih =>
  intro x t h hat;obtain⟨hi0,hil,hat'⟩:=T.at_cons hat;rw[NT.er_ks,List.length_map] at hil;rw[NT.er_ks,<- er_getD] at hat';rw[NT.sub];exact ih ((NT.Room_iff.1 h).2.2 _ (zbd x.ks i.toNat hil)) hat'
theorem hole_all{w:World}{x:NT}{lo hi bx B:Nat}{p:List Int}{t:T}(hs:x.Sep lo hi)(ho:x.Own w lo hi)(hbx:hi<=bx)(hbs:bx < w.heap.size)(hnode:NodeAt w bx 0 x)(hfz:∀ j,w.frozen? ⟨bx,j,none⟩=false)(hB:B<=lo)(hat:x.er.at p=some t) :
  ∃ l h,B<=l/\l<=h/\h<=bx/\(x.sub p).Sep l h/\(x.sub p).Own w l h/\B<=(x.adr bx 0 p).1/\(x.adr bx 0 p).1 < w.heap.size/\¬(l<=(x.adr bx 0 p).1/\(x.adr bx 0 p).1 < h)/\NodeAt w (x.adr bx 0 p).1 (x.adr bx 0 p).2 (x.sub p)/\(∀ j,w.frozen? ⟨(x.adr bx 0 p).1,j,none⟩=false) /\
   ∀(w':World) (y:NT),Keeps (fun k=>k=(x.adr bx 0 p).1\/(l<=k/\k < h)) w w'->(∀ q,(q < (x.adr bx 0 p).2\/(x.adr bx 0 p).2+4<=q)->w'.cell? ⟨(x.adr bx 0 p).1,q,none⟩=w.cell? ⟨(x.adr bx 0 p).1,q,none⟩)->NodeAt w' (x.adr bx 0 p).1 (x.adr bx 0 p).2 y->y.In w' B w'.heap.size ->
    NodeAt w' bx 0 (NT.setAt y x p)/\(NT.setAt y x p).In w' B w'.heap.size:=by
 have hle:=hs.le;obtain⟨hsf,hsub⟩:=adr_soft p bx 0 ho hfz hat
 by_cases hp:p=[]
 ·subst hp;exact⟨lo,hi,hB,hle,hbx,hs,ho,by show B<=bx;omega,hbs,by show ¬(lo<=bx/\bx < hi);omega,hnode,hsf,fun w' y _ _ hn hy=>⟨hn,hy⟩⟩
 ·obtain⟨l,h,q1,q2,q3,q4,q5,q6,q7,q8,q9⟩:=hs.hole p bx 0 ho.1 (by omega) hp hat;refine⟨l,h,by omega,q2,by omega,q4,⟨q5,hsub⟩,by omega,by omega,by omega,q8,hsf,fun w' y hk hoth hn hy=>⟨?_,?_⟩⟩
  ·have hc:∀ j,w'.cell? ⟨bx,j,none⟩=w.cell? ⟨bx,j,none⟩:=fun j=>hk.cell (p:=⟨bx,j,none⟩) hbs (by
    show ¬(bx=(x.adr bx 0 p).1\/(l<=bx/\bx < h))
    omega)
   have hj:=fun j=>NT.setAt_cell (y:=y) hp x j;have h0:=hj 0;have h1:=hj 1;have h2:=hj 2;have h3:=hj 3;unfold NT.cell at h0 h1 h2 h3;unfold NodeAt at hnode ⊢;simp only[hc,Nat.zero_add] at hnode ⊢;simp only at h0 h1 h2 h3;rw[h0,h1,h2,h3];exact hnode
  ·exact q9 B hB w' y (fun k k1 k2 k3 k4=>hk.block k (by omega) (fun hh=>hh.elim k3 k4)) hoth hk.size hn hy
theorem changed_any(n:NT)(pa:Option Addr)(pc:Nat)(p:List Int)(g:FuncId)(caps:Array Value)(how:How)(w:World)(hn:n.Ok w)(hb:n.er.bulk<=1048576)(hp:IntsIn w 0 w.heap.size pa pc p)(hl:p.length<=1048576)(eg:∀ args w,(callFunc g args).run Tryz.prog w=.ok (.enter g args) w)(HOW:∀(y:NT) (l h b o:Nat) (w1:World),Grew w w1->w.heap.size+2<=l->l<=h->h<=w1.heap.size->y.Sep l h->y.Own w1 l h->y.Room w1->n.er.at p=some y.er->NodeAt w1 b o y->(∀ j,w1.frozen? ⟨b,j,none⟩=false)->w.heap.size+2<=b->b < w1.heap.size->¬(l<=b/\b < h) ->
   Calls Tryz.prog g (#[.pointer (some ⟨b,o,none⟩)]++caps) w1 (HowEnds how (w.heap.size+2) y l h b o w1)) :
  Calls Tryz.prog 114 #[n.val,.slice pa p.length pc,.func (.func g) #[] caps] w (zac (zaM n.er p how) w):=by
 have CP:=zQ0 (fun w1 (hg:Grew w w1)=>copySep_any n w1 (NT.Ok.grew hn hg) hb);have HP:=zQ0 (fun w1 (hg:Grew w w1)=>(hp.grew hg zQ1).mono zQ1 hg.size);have HOW:=zQ0 HOW;have HL:=zQ0 hl;have HC:Hid (zaM n.er p how=match n.er.at p with | none=>(T.mk false [] [] [],5) | some y=>match how y with | .inl y'=>(T.setAt y' n.er p,0) | .inr c=>(T.mk false [] [] [],c)):=rfl;generalize zaM n.er p how=res at *;clear hn hb hp hl;unfold NT.val at *
 go_enter Tryz.func114,Tryz.ntmps114
 go_upto_region 1 with fail
 generalize hW:(w.alloc _).alloc _=w1;obtain⟨g1,rN,_,_,tR,z1⟩:=zar w n.cells4 NT.nil.cells4 _ _ w1 hW;clear hW;obtain⟨m0,m1,m2,m3⟩:=NT.cells4_at.1 rN;go_wp2_with fail
 refine (CP.out w1 g1).mono ?_;rintro e w2 ⟨x,rfl,g2,hown,hsep,hroom,hxe⟩;have z2:=g2.size;have HTH:=zQ0 (zc5 (Grew.refl (w2.alloc (.cells #[.bool false,.slice none 0 0,.slice none 0 0,.slice none 0 0] 26))));have HNB:=zQ0 (fun(F:World) (hF:(w2.alloc (.cells #[.bool false,.slice none 0 0,.slice none 0 0,.slice none 0 0] 26)).setCells w2.heap.size 0 x.cells4=F)=>boxFill hF rfl);clear rN m0 m1 m2 m3 CP;unfold NT.val
 go_upto_region 2 with (refine wpList_store_mid rfl 26 (.tmp 8) (.tmp 12) rfl w2.heap.size 0 x.cells4.toArray rfl rfl HTH.out zbm x.cells4_all ?_;generalize hF:(w2.alloc _).setCells _ _ _=w3;obtain⟨r3,g3,z3,t3,f3⟩:=HNB.out w3 hF;clear hF HNB HTH)
 have z3':=g3.size;have hown3:x.Own w3 w1.heap.size w2.heap.size:=hown.grew g3 zQ1;have G3:Hid (Grew w w3):=g1.trans (g2.trans g3);have tR3:=zc4 tR (g2.trans g3) (by omega);have hat:=treeAtH_any x w2.heap.size 0 pa pc p w3 w1.heap.size w2.heap.size 0 w3.heap.size (NT.cells4_at.1 r3) z3 hown3.1 (by omega) (HP.out w3 G3.out) zQ1 HL.out;have HAT:=zQ0 hat;have HX:=zQ0 hown3;have HRm:Hid (x.Room w3):=hroom.agree (g3.agree zQ1) hown.1;have HSP:=zQ0 hsep;have Z1:=zQ0 z1;have Z2:=zQ0 z2;have Z3:=zQ0 z3;have TR3:=zQ0 tR3;have F3:=zQ0 f3;have r3':=r3;clear hroom hat hown hown3 hsep g1 g2 g3 z1 z2 z3 z3' t3 f3 tR tR3 r3;go_wp2_with fail
 refine HAT.out.mono ?_;rintro e w4 ⟨g4,⟨rfl,hnode,hyin,hbs,hat⟩ | ⟨rfl,hat⟩⟩
 ·have z1:=Z1.out;have z2:=Z2.out;have z3:=Z3.out;have z4:=g4.size;have hfz:∀ j,w4.frozen? ⟨w2.heap.size,j,none⟩=false:=fun j=>(g4.frozen (p:=⟨w2.heap.size,j,none⟩) z3).trans (F3.out j);have hnx:NodeAt w4 w2.heap.size 0 x:=NodeAt.grew (NT.cells4_at.1 r3') g4 z3;obtain⟨l,h,q1,q2,q3,q4,q5,q6,q7,q8,q9,q10,q11⟩:=hole_all (B:=w.heap.size+2) HSP.out (HX.out.grew g4 (by omega)) zQ1 (by omega) hnx hfz (by omega) hat.out;have G4:=zQ0 (G3.out.trans g4)
  have hat':Hid (n.er.at p=some (x.sub p).er):=by
   show _=_
   rw[<- hxe.out];exact hat.out
  have HW:=zQ0 (HOW.out (x.sub p) l h _ _ w4 G4.out q1 q2 (by omega) q4 q5 (room_sub p (HRm.out.agree (g4.agree (by omega)) HX.out.1) hat.out) hat'.out q9 q10 q6 q7 q8)
  have HN:Hid (res=match how (x.sub p).er with | .inl y'=>(T.setAt y' n.er p,0) | .inr c=>(T.mk false [] [] [],c)):=by
   show _=_
   rw[HC.out,hat'.out]
  have t4:w4.there (w.heap.size+1) 0 4:=zc4 TR3.out g4 (by omega);have HZ:=zQ0 q11;have HQ:=zQ0 (⟨q1,q6,q7⟩:w.heap.size+2<=l/\w.heap.size+2<=(x.adr w2.heap.size 0 p).1/\_);have T4:=zQ0 t4;clear q1 q2 q3 q4 q5 q6 q7 q8 q9 q10 q11 hfz hnx hat hat' HOW HC hnode hyin hbs z1 z2 z3 t4 HAT HSP HX;generalize x.adr w2.heap.size 0 p=A at *;obtain⟨A1,A2⟩:=A;go_wp2_with fail
  refine HW.out.mono ?_;rintro e w5 ⟨hk,⟨y',rfl,hn5,hy5,hoth,hh⟩ | ⟨c,hc,rfl,hh⟩⟩
  ·obtain⟨hnz,hzin⟩:=HZ.out w5 y' hk hoth hn5 hy5;obtain⟨m0,m1,m2,m3⟩:=hnz;rw[Nat.zero_add] at m1 m2 m3
   have HF:Hid (res=(T.setAt y'.er n.er p,0)):=by
    show _=_
    rw[HN.out,hh.out]
   have HE:Hid ((NT.setAt y' x p).er=T.setAt y'.er n.er p):=by
    show _=_
    rw[NT.setAt_er,hxe.out]
   have hq:=HQ.out
   have t5:w5.there (w.heap.size+1) 0 4:=fun j hj=>by
    have hne:¬ (w.heap.size+1=A1\/(l<=w.heap.size+1/\w.heap.size+1 < h)):=by
     have:w.heap.size+2<=A1:=hq.2.1;omega
    have hlt:w.heap.size+1 < w4.heap.size:=by
     have:=Z1.out;have:=Z2.out;have:=Z3.out;omega
    rw[hk.cell (p:=⟨w.heap.size+1,0+j,none⟩) hlt hne,hk.frozen (p:=⟨w.heap.size+1,0+j,none⟩) hlt hne];exact T4.out j hj
   have G5:Hid (Grew w w5):=G4.out.keep hk (fun k hk'=>by
    have h1:=hq.1;have h2:w.heap.size+2<=A1:=hq.2.1
    rcases hk' with rfl | hk'
    ·omega
    ·omega)
   have ZI:=zQ0 hzin;clear hn5 hy5 hoth hh hk HZ HN HW hzin hq;generalize NT.setAt y' x p=z at *;have HP:=zQ0 (zcm (cs:=z.cells4) t5);have HK:=zQ0 (zcM (w.heap.size+1) z.cells4 0 w5)
   go_wp2_with (refine wpList_store_mid rfl 26 (.tmp 6) (.tmp 27) rfl (w.heap.size+1) 0 z.cells4.toArray rfl rfl t5 zbm (NT.cells4_all _) ?_;generalize hF:w5.setCells _ _ _=w6;have r6:w6.rangeAt (w.heap.size+1) 0 z.cells4:=hF ▸ HP.out;have k6:Keeps (·=w.heap.size+1) w5 w6:=hF ▸ HK.out;clear hF HP HK)
   refine bodyPost_ret (v:=.tuple #[z.val,.int .i64 0]) (zcq Tryz.results114 _ w6 (w.heap.size+1) 0 z.cells4 _ _ rfl rfl r6 Tryz.underlying26 rfl zbm) rfl ?_;rw[HF.out];exact⟨z,rfl,G5.out.keep k6 (fun j hj=>by rw[hj];omega),(ZI.out.agree (k6.agree zQ1 (fun j h1 h2=>by show ¬ j=_;omega))).mono (by omega) k6.size,HE⟩
  ·have HF:Hid (res=(T.mk false [] [] [],c)):=by
    show _=_
    rw[HN.out,hh.out]
   have hq:=HQ.out
   have t5:w5.there (w.heap.size+1) 0 4:=fun j hj=>by
    have hne:¬ (w.heap.size+1=A1\/(l<=w.heap.size+1/\w.heap.size+1 < h)):=by
     have:w.heap.size+2<=A1:=hq.2.1;omega
    have hlt:w.heap.size+1 < w4.heap.size:=by
     have:=Z1.out;have:=Z2.out;have:=Z3.out;omega
    rw[hk.cell (p:=⟨w.heap.size+1,0+j,none⟩) hlt hne,hk.frozen (p:=⟨w.heap.size+1,0+j,none⟩) hlt hne];exact T4.out j hj
   have G5:Hid (Grew w w5):=G4.out.keep hk (fun k hk'=>by
    have h1:=hq.1;have h2:w.heap.size+2<=A1:=hq.2.1
    rcases hk' with rfl | hk'
    ·omega
    ·omega)
   have hct:(c != 0)=true:=by simpa using hc
   clear hh hk HZ HN HW hq hc;have HP:=zQ0 (zcm (cs:=NT.nil.cells4) t5);have HK:=zQ0 (zcM (w.heap.size+1) NT.nil.cells4 0 w5)
   go_wp2_with (refine wpList_store_mid rfl 26 (.tmp 6) (.tmp 25) rfl (w.heap.size+1) 0 NT.nil.cells4.toArray rfl rfl t5 zbm (NT.cells4_all _) ?_;generalize hF:w5.setCells _ _ _=w6;have r6:w6.rangeAt (w.heap.size+1) 0 NT.nil.cells4:=hF ▸ HP.out;have k6:Keeps (·=w.heap.size+1) w5 w6:=hF ▸ HK.out;clear hF HP HK)
   refine bodyPost_ret (v:=.tuple #[NT.nil.val,.int .i64 c]) (zcq Tryz.results114 _ w6 (w.heap.size+1) 0 NT.nil.cells4 _ _ rfl rfl r6 Tryz.underlying26 rfl zbm) rfl ?_;rw[HF.out];exact⟨NT.nil,rfl,G5.out.keep k6 (fun j hj=>by rw[hj];omega),NT.nil_in,by show _=_;rw[NT.er_eq];rfl⟩
 ·have z1:=Z1.out;have z2:=Z2.out;have z3:=Z3.out
  have HF:Hid (res=(T.mk false [] [] [],5)):=by
   show _=_
   rw[HC.out,<- hxe.out,hat.out]
  have t4:w4.there (w.heap.size+1) 0 4:=zc4 TR3.out g4 (by omega);have G4:=zQ0 (G3.out.trans g4);have HP:=zQ0 (zcm (cs:=NT.nil.cells4) t4);have HK:=zQ0 (zcM (w.heap.size+1) NT.nil.cells4 0 w4);clear hat HC HOW z1 z2 z3 g4
  go_wp2_with (refine wpList_store_mid rfl 26 (.tmp 6) (.tmp 25) rfl (w.heap.size+1) 0 NT.nil.cells4.toArray rfl rfl t4 zbm (NT.cells4_all _) ?_;generalize hF:w4.setCells _ _ _=w5;have r5:w5.rangeAt (w.heap.size+1) 0 NT.nil.cells4:=hF ▸ HP.out;have k5:Keeps (·=w.heap.size+1) w4 w5:=hF ▸ HK.out;clear hF HP HK)
  refine bodyPost_ret (v:=.tuple #[NT.nil.val,.int .i64 5]) (zcq Tryz.results114 _ w5 (w.heap.size+1) 0 NT.nil.cells4 _ _ rfl rfl r5 Tryz.underlying26 rfl zbm) rfl ?_;rw[HF.out];exact⟨NT.nil,rfl,G4.out.keep k5 (fun j hj=>by rw[hj];omega),NT.nil_in,by show _=_;rw[NT.er_eq];rfl⟩
end Go.Proofs.YtccobobnmpafbaaGreatDoor
