/- WHAT AN OPERATION DOES to how often a label stands in a ghost; plain. -/
import Derived.Test.YtccobobnmpafbaaGreatDoorK38
import Derived.Test.YtccobobnmpafbaaGreatDoorK37
import Derived.Test.YtccobobnmpafbaaGreatDoorK06
import Derived.Test.YtccobobnmpafbaaGreatDoorK17
import Derived.Test.YtccobobnmpafbaaGreatDoorK05
set_option maxRecDepth 100000
set_option maxHeartbeats 100000000
namespace Go.Proofs.YtccobobnmpafbaaGreatDoor
open Go Go.RowKit
structure Fits (f e:List Int->Nat):Prop where
 none:∀ l:List Int,f (l.map fun _=>-2)=0
 bare:f [-2]=0
 join:∀ a b:List Int,a≠[]->f (a++b.tail)+e b=f a+f b
 part:∀(a:List Int) (q:Nat),f (a.take (q+1))+f (-2::a.drop (q+1))=f a
 ins:∀(a:List Int) (q m:Nat),a≠[]->f (a.take (q+1)++List.replicate m (-2)++a.drop (q+1))=f a
 rem:∀(a:List Int) (q m:Nat),a≠[]->f (a.take (q+1)++a.drop (q+1+m))<=f a
theorem fits_lab{z:Int}(h:0<=z):Fits (fLab z) (fLab z):=by
 have n2:¬ ((-2:Int)=z):=by omega
 refine⟨fLab_none h,?_,?_,?_,?_,?_⟩
 ·exact fLab_none h [0]
 ·intro a b ha;obtain⟨x,r,rfl⟩:=List.exists_cons_of_ne_nil ha
  rfl
 ·intro a q;have:fLab z (-2::a.drop (q+1))=0:=fLab_none h [0];rw[this]
  cases a with
  | nil=>rfl
  | cons x r=>rfl
 ·intro a q m ha;obtain⟨x,r,rfl⟩:=List.exists_cons_of_ne_nil ha
  rfl
 ·intro a q m ha;obtain⟨x,r,rfl⟩:=List.exists_cons_of_ne_nil ha;exact Nat.le_refl _
theorem like_ne{g n:T}(h:like g n):g.ts≠[]:=by
 obtain⟨l,r,e,_⟩:=like_ts h;rw[e];exact List.cons_ne_nil _ _
theorem doG_tot{f e:List Int->Nat}(F:Fits f e){n g:T}{s:SelE}{o:OpE}(hb:n.bulk<=1048576)(hg:like g n)(ha:(zak n s o).2.2=0) :
  (o.kind=2->∃ h,g.at o.path=some h/\(doG o g).tot f+h.tot f=g.tot f) /\
  (o.kind=3->∃ h,g.at o.path=some h/\(doG o g).tot f+e h.ts=g.tot f) /\
  (doG o g).tot f<=g.tot f:=by
 obtain⟨hm,h⟩:=zal ha;obtain⟨hc,hl,_,hf⟩:=may_ok hm
 rcases h with ⟨h9,_,_,he⟩ | ⟨h9,hs,_,he⟩
 ·rw[doG_own (.inr h9)];exact⟨fun h=>by omega,fun h=>by omega,Nat.le_refl _⟩
 ·have hkk:=zbf hf
  rcases (show o.kind=1\/o.kind=2\/o.kind=3\/o.kind=4\/o.kind=5\/o.kind=6\/o.kind=7\/o.kind=8 by omega) with h1 | h1 | h1 | h1 | h1 | h1 | h1 | h1
  ·obtain⟨up,i,u,a,b,e1,e2,_,e3,e4,_,e8⟩:=done1 hf h1 hs;obtain⟨v,c,d,g1,g2,g3,g4,g5,g6,g7⟩:=ghost1 h1 hg e1 e2 e3 e4;refine⟨fun h=>by omega,fun h=>by omega,?_⟩;have q1:=T.tot_setAt f (y':=v.kids (c++fgt (gh o.node 0)::d)) g1;rw[T.tot_kids,T.tot_eq f v,g3,T.tots_append,T.tots_append,T.tots_cons,fgt_none F.none,<- g7] at q1;omega
  ·obtain⟨up,i,u,a,b,e1,e2,e3,e4,e8⟩:=done2 hf h1 hs;obtain⟨v,h,c,d,g1,g2,g3,g4,g5,g6,g7,g8⟩:=ghostcut hg e2 e3 e4
   have hd:doG o g=T.setAt (v.kids (c++d)) g up:=by
    unfold doG;rw[if_neg (by omega),if_pos h1,e1,g8]
   have q1:=T.tot_setAt f (y':=v.kids (c++d)) g1;rw[T.tot_kids,T.tot_eq f v,g3,T.tots_append,T.tots_append,T.tots_cons,<- hd] at q1;exact⟨fun _=>⟨h,by rw[e1];exact T.at_the_kid g1 g3 g4,by omega⟩,fun h=>by omega,by omega⟩
  ·obtain⟨up,i,u,x,k,a,b,e1,e2,e3,e4,_,_,_,e8⟩:=done3 (by omega) hf h1 hs
   obtain⟨v,hx,hk,c,d,g1,g2,g3,g4,g5,g6,g7,g8,g9⟩:=ghost3 h1 hg e1 e2 e3 e4 (by
    have h1:=zav e2;have h2:=u.ks_bulk;rw[e3,List.length_append] at h2
    omega)
   have q1:=T.tot_setAt f (y':=v.kids (c++hx.gjoin hk::d)) g1
   have q2:(hx.gjoin hk).tot f+e hk.ts=hx.tot f+hk.tot f:=by
    rw[T.tot_eq f hx,T.tot_eq f hk];unfold T.gjoin;rw[T.tot,T.tots_append];have:=F.join hx.ts hk.ts (like_ne g6);omega
   rw[T.tot_kids,T.tot_eq f v,g3,T.tots_append,T.tots_append,T.tots_cons,T.tots_cons,T.tots_cons,<- g9] at q1;refine⟨fun h=>by omega,fun _=>⟨hk,?_,by omega⟩,by omega⟩;rw[e1];exact T.at_the_kid g1 (show v.ks=(c++[hx])++hk::d by rw[g3,List.append_assoc];rfl) (by rw[List.length_append,g4];rfl)
  ·obtain⟨up,i,u,k,a,b,e1,e2,e3,e4,e5,p0,p1,_,e8⟩:=done4 hf h1 hs
   obtain⟨v,hk,c,d,g1,g2,g3,g4,g5,g6,g7,g9⟩:=ghost4 h1 hg e1 e2 e4 e5 (by
    have h1:=zav e2;have h2:=u.ks_bulk;rw[e4,List.length_append] at h2
    omega)
   have q1:=T.tot_setAt f (y':=v.kids (c++hk.gfirst o.pos.toNat::hk.gsecond o.pos.toNat::d)) g1
   have q2:(hk.gfirst o.pos.toNat).tot f+(hk.gsecond o.pos.toNat).tot f=hk.tot f:=by
    rw[T.tot_eq f hk];unfold T.gfirst T.gsecond
    split
    ·rename_i hA
     rw[T.tot,T.tot,hA.2,T.tots_nil];have:=F.part hk.ts o.pos.toNat;omega
    ·rw[T.tot,T.tot,F.bare];have:T.tots f (hk.ks.take o.pos.toNat)+T.tots f (hk.ks.drop o.pos.toNat)=T.tots f hk.ks:=by rw[<- T.tots_append,List.take_append_drop]
     omega
   rw[T.tot_kids,T.tot_eq f v,g3,T.tots_append,T.tots_append,T.tots_cons,T.tots_cons,T.tots_cons,<- g9] at q1;exact⟨fun h=>by omega,fun h=>by omega,by omega⟩
  ·obtain⟨up,vp,i,j,u,v,k,r,a,b,c,d,e1,e2,e3,e4,er,f1,f2,f3,f4,f5,e8⟩:=done5 hf h1 hs;obtain⟨gu,h,gr,gv,a',b',c',d',g1,g2,g3,g4,g5,g6,g7,g8,g9,g10,g11,g12,g13,g14⟩:=ghost5 h1 hg e1 e2 e3 e4 er f1 f2 f4 f5;have q1:=T.tot_setAt f (y':=gu.kids (a'++b')) g1;rw[T.tot_kids,T.tot_eq f gu,g3,T.tots_append,T.tots_append,T.tots_cons,<- g6] at q1;have q2:=T.tot_setAt f (y':=gv.kids (c'++h::d')) g8;rw[T.tot_kids,T.tot_eq f gv,g10,T.tots_append,T.tots_append,T.tots_cons,<- g14] at q2;exact⟨fun h=>by omega,fun h=>by omega,by omega⟩
  ·rw[doG_own (.inl h1)];exact⟨fun h=>by omega,fun h=>by omega,Nat.le_refl _⟩
  ·obtain⟨k,k',e1,e2,e3⟩:=done6 hf (.inr (.inl h1)) hs;obtain⟨h,hh,hhl,hd⟩:=ghost7 h1 hg e1;refine⟨fun h=>by omega,fun h=>by omega,?_⟩;have q1:=T.tot_setAt f (y':=.mk false [] (h.ts.take (o.pos.toNat+1)++List.replicate o.text.length (-2)++h.ts.drop (o.pos.toNat+1)) h.ks) hh;rw[T.tot,T.tot_eq f h,F.ins h.ts _ _ (like_ne hhl),<- hd] at q1;omega
  ·obtain⟨k,k',e1,e2,e3⟩:=done6 hf (.inr (.inr h1)) hs;obtain⟨h,hh,hhl,hd⟩:=ghost8 h1 hg e1;refine⟨fun h=>by omega,fun h=>by omega,?_⟩;have q1:=T.tot_setAt f (y':=.mk false [] (h.ts.take (o.pos.toNat+1)++h.ts.drop (o.pos.toNat+1+o.text.length)) h.ks) hh;have q2:=F.rem h.ts o.pos.toNat o.text.length (like_ne hhl);rw[T.tot,T.tot_eq f h,<- hd] at q1;omega
theorem shp_back{k:T}:∀ {p:List Int} {g n:T},shp g n->n.at p=some k->∃ h,g.at p=some h:=by
 intro p
 induction p with
 | nil=>intro g n _ _;exact⟨g,rfl⟩
 | cons i r ih =>
  intro g n h e;obtain⟨h0,h1,h2⟩:=T.at_of e;have hl:=shp_iff.1 h;have hlen:=shps_len hl;obtain⟨x,hx⟩:=ih (shps_getD i.toNat hl (by omega)) h2;exact⟨x,by rw[T.at_go h0 (by omega)];exact hx⟩
theorem aboveP_app{a b:List Int}(h:zaf a b=true):∃ r,b=a++r:=by
 unfold zaf at h;rw[Bool.and_eq_true,decide_eq_true_iff,decide_eq_true_iff] at h;exact⟨b.drop a.length,by have h2:=h.2;have h3:=(List.take_append_drop a.length b).symm;rw[<- h2] at h3;exact h3⟩
theorem like_of_at{h:T}:∀ {q:List Int} {g n:T},like g n->g.at q=some h->∃ k,like h k:=by
 intro q
 induction q with
 | nil=>intro g n hl e;injection e with e;subst e;exact⟨n,hl⟩
 | cons i r ih =>
  intro g n hl e;obtain⟨h0,h1,h2⟩:=T.at_of e;have hk:=(like_iff.1 hl).2.2;have hlen:=zbK hk;exact ih (likes_getD i.toNat hk (by omega)) h2
theorem likes_take:∀ {a b:List T} (q:Nat),likes a b->likes (a.take q) (b.take q)/\likes (a.drop q) (b.drop q)
 | [],b,q,h=>by rw[likes] at h;rw[h];simp[likes]
 | g::r,b,0,h=>by simpa [likes] using h
 | g::r,b,q+1,h=>by
  rw[likes] at h;obtain⟨k,l,rfl,h1,h2⟩:=h;obtain⟨q1,q2⟩:=likes_take q h2;exact⟨likes_cons.2 ⟨h1,q1⟩,q2⟩
theorem doG_full{n g:T}{s:SelE}{o:OpE}(hb:n.bulk<=1048576)(hg:like g n)(ha:(zak n s o).2.2=0):∃ n',like (doG o g) n':=by
 by_cases h4:o.kind=4
 ·obtain⟨hm,h⟩:=zal ha;obtain⟨hc,_,_,hf⟩:=may_ok hm
  rcases h with ⟨h9,_⟩ | ⟨_,hs,_,he⟩
  ·omega
  ·obtain⟨up,i,u,k,a,b,e1,e2,e3,e4,e5,p0,p1,_,e8⟩:=done4 hf h4 hs
   obtain⟨v,hk,c,d,g1,g2,g3,g4,g5,g6,g7,g9⟩:=ghost4 h4 hg e1 e2 e4 e5 (by
    have h1:=zav e2;have h2:=u.ks_bulk;rw[e4,List.length_append] at h2
    omega)
   rw[g9];have hks:=(like_iff.1 g6).2.2;have hne:=like_ne g6;obtain⟨x,r,hxr⟩:=List.exists_cons_of_ne_nil hne
   have l1:∃ m,like (hk.gfirst o.pos.toNat) m:=by
    unfold T.gfirst
    split
    ·exact⟨.mk false [] (r.take o.pos.toNat) k.ks,like_iff.2 ⟨rfl,by rw[hxr];simp[T.ts],hks⟩⟩
    ·exact⟨.mk false [] r (k.ks.take o.pos.toNat),like_iff.2 ⟨rfl,by rw[hxr];simp[T.ts],(likes_take _ hks).1⟩⟩
   have l2:∃ m,like (hk.gsecond o.pos.toNat) m:=by
    unfold T.gsecond
    split
    ·exact⟨.mk false [] (hk.ts.drop (o.pos.toNat+1)) [],like_iff.2 ⟨rfl,by simp[T.ts],by rw[T.ks_mk];rfl⟩⟩
    ·exact⟨.mk false [] [] (k.ks.drop o.pos.toNat),like_iff.2 ⟨rfl,by simp[T.ts],(likes_take _ hks).2⟩⟩
   obtain⟨m1,l1⟩:=l1;obtain⟨m2,l2⟩:=l2;exact⟨_,zbH (k':=u.kids (a++m1::m2::b)) (zbG g2 (zbI g5 (likes_cons.2 ⟨l1,likes_cons.2 ⟨l2,g7⟩⟩))) hg e2⟩
 ·exact⟨_,doG_like (by omega) hg ha h4⟩
theorem fLab_pos{z:Int}{h k:T}(hl:like h k):0 < fLab z h.ts ↔ lab h=z:=by
 rw[fLab_eq hl]
 split
 ·rename_i e;exact⟨fun _=>e,fun _=>by omega⟩
 ·rename_i e;exact⟨fun h=>by omega,fun h=>absurd h e⟩
theorem move_merged{n:T}{s:SelE}{o:OpE}(hb:n.bulk<=1048576)(ha:(zak n s o).2.2=0)(hk:o.kind=3):zbT o.path o.path o.dest o.kind o.pos=((zap o.path).1,true)/\(zap o.path).2=0:=by
 obtain⟨hsq,hsd,hspos⟩:=op_small hb ha;obtain⟨hm,h⟩:=zal ha;obtain⟨_,_,_,hf⟩:=may_ok hm
 rcases h with ⟨h9,_⟩ | ⟨_,hs,_,_⟩
 ·omega
 ·obtain⟨up,i,u,x,k,a,b,e1,e2,e3,e4,_⟩:=done3 (by omega) hf hk hs;have h1:=zav e2;have h2:=u.ks_bulk;rw[e3,List.length_append] at h2;rw[move_is hsq hsq hsd hspos,hk,e1,if_neg (by simp),back_at (by omega)];refine⟨?_,rfl⟩;have hst:zc2 (up++[((i+1:Nat):Int)]) (up++[((i+1:Nat):Int)])=3:=by rw[zc4,if_pos rfl,if_pos rfl]
  unfold moveK;rw[if_neg (by decide),if_neg (by decide),if_pos rfl,hst,if_neg (by rw[zcZ,zcY];omega),if_neg (by decide),if_pos (.inl rfl),zc0,Nat.add_sub_cancel,zcW up [] (by omega) (by omega)];rw[show ((i+1:Nat):Int) + -1=(i:Int) by omega]
theorem merged_path{n:T}{s:SelE}{o:OpE}(hb:n.bulk<=262144)(ha:(zak n s o).2.2=0)(hk:o.kind=3):∃(up:List Int) (i:Nat),o.path=up++[((i+1:Nat):Int)]/\i+1<=1048576/\(zap o.path).1=up++[(i:Int)]:=by
 obtain⟨hm,h⟩:=zal ha;obtain⟨_,_,_,hf⟩:=may_ok hm
 rcases h with ⟨h9,_⟩ | ⟨_,hs,_,_⟩
 ·omega
 ·obtain⟨up,i,u,x,k,a,b,e1,e2,e3,e4,_⟩:=done3 (by omega) hf hk hs;have h1:=zav e2;have h2:=u.ks_bulk;rw[e3,List.length_append] at h2;refine⟨up,i,e1,by omega,?_⟩;rw[e1,back_at (by omega)]
theorem path_law{n:T}{s:SelE}{o:OpE}{p:List Int}{y gy:T}(hb:n.bulk<=1048576)(ha:(zak n s o).2.2=0)(hp:n.at p=some y)(hgy:(gh n 0).at p=some gy) :
  (∀ q z,(zak n s o).1.at q=some z->∃ h,(doG o (gh n 0)).at q=some h/\(lab h=lab gy->zbT p o.path o.dest o.kind o.pos=(q,true))) /\
  ((∀ q z h,(zak n s o).1.at q=some z->(doG o (gh n 0)).at q=some h->lab h≠lab gy)->(o.kind=3/\p=o.path/\zbT p o.path o.dest o.kind o.pos=((zap o.path).1,true)/\(zap o.path).2=0)\/(o.kind≠3/\(zbT p o.path o.dest o.kind o.pos).2=false)):=by
 have hg:=gh_like n 0;obtain⟨m1,m2⟩:=ghost_move (g:=gh n 0) (by omega) hg ha hp;obtain⟨n',hfull⟩:=doG_full hb hg ha;obtain⟨ky,hky⟩:=like_of_at hg hgy
 have hz:0<=lab gy:=gh_nonneg hgy _ (by
  have:=like_ne hky;unfold lab
  cases h:gy.ts with
  | nil=>exact absurd h this
  | cons x r=>simp)
 have once:=gh_lab_once (lab gy) n;obtain⟨t2,t3,t1⟩:=doG_tot (fits_lab hz) hb hg ha;have own0:0 < fLab (lab gy) gy.ts:=(fLab_pos hky).2 rfl
 have found:∀ {q h},(doG o (gh n 0)).at q=some h->lab h=lab gy->0 < (doG o (gh n 0)).tot (fLab (lab gy)):=fun {q h} hq hl=>by
  obtain⟨k,hk⟩:=like_of_at hfull hq;have h1:=(fLab_pos (z:=lab gy) hk).2 hl;have h2:=T.tot_own (fLab (lab gy)) h;have h3:=T.tot_at (fLab (lab gy)) hq;omega
 have gone:(zbT p o.path o.dest o.kind o.pos).2=false->(doG o (gh n 0)).tot (fLab (lab gy))=0:=fun hm=>by
  obtain⟨hk2,hor⟩:=m1 hm;obtain⟨h,hh,ht⟩:=t2 hk2
  have hpr:∃ r,p=o.path++r:=by
   rcases hor with e | e
   ·exact⟨[],by rw[e,List.append_nil]⟩
   ·exact aboveP_app e
  obtain⟨r,hr⟩:=hpr;have hat:=hgy;rw[hr,T.at_up hh] at hat;have h1:=T.tot_at (fLab (lab gy)) hat;have h2:=T.tot_own (fLab (lab gy)) gy;omega
 have merged:o.kind=3->p=o.path->(doG o (gh n 0)).tot (fLab (lab gy))=0:=fun hk3 hpe=>by
  obtain⟨h,hh,ht⟩:=t3 hk3;rw[<- hpe,hgy] at hh;injection hh with hh
  subst hh;omega
 have stands:¬ (o.kind=3/\p=o.path)->(zbT p o.path o.dest o.kind o.pos).2=true->∃ h',(doG o (gh n 0)).at (zbT p o.path o.dest o.kind o.pos).1=some h'/\lab h'=lab gy:=fun hno hm=>by
  obtain⟨h,h',q1,q2,q3⟩:=m2 hm;rw[if_neg hno,hgy] at q1;injection q1 with q1
  rw[<- q1] at q3;exact⟨h',q2,q3⟩
 refine⟨fun q z hq=>?_,fun hno=>?_⟩
 ·obtain⟨h,hh⟩:=shp_back (ghost_shp (by omega) hg ha) hq;refine⟨h,hh,fun hl=>?_⟩;have hpos:=found hh hl
  have hm:(zbT p o.path o.dest o.kind o.pos).2=true:=by
   cases hm:(zbT p o.path o.dest o.kind o.pos).2 with
   | true=>rfl
   | false=>have:=gone hm;omega
  obtain⟨h',q2,q3⟩:=stands (fun hk=>by have:=merged hk.1 hk.2;omega) hm;obtain⟨k1,hk1⟩:=like_of_at hfull hh;obtain⟨k2,hk2⟩:=like_of_at hfull q2;have e:=T.at_once (fLab (lab gy)) hh q2 ((fLab_pos hk1).2 hl) ((fLab_pos hk2).2 q3) (by omega);exact Prod.ext e.symm hm
 ·by_cases hk3:o.kind=3/\p=o.path
  ·obtain⟨e1,e2⟩:=move_merged (s:=s) hb ha hk3.1;exact .inl ⟨hk3.1,hk3.2,by rw[hk3.2];exact e1,e2⟩
  ·have hm:(zbT p o.path o.dest o.kind o.pos).2=false:=by
    cases hm:(zbT p o.path o.dest o.kind o.pos).2 with
    | false=>rfl
    | true =>
     obtain⟨h',q2,q3⟩:=stands hk3 hm;obtain⟨k,hk⟩:=ghost_stands (by omega) hg ha q2;exact absurd q3 (hno _ k h' hk q2)
   refine .inr ⟨fun h3=>?_,hm⟩;have:=(m1 hm).1;omega
def ptrV(k:NT):Value:=.pointer (some ⟨k.pc,0,none⟩)
def NT.gcells(x:NT):List Value:=[.int .i64 (x.ts.headD 0),.slice x.ta x.ts.tail.length x.tc,.slice x.ka x.ks.length x.kc]
def NT.runesV(x:NT):Value:=.slice x.ta x.ts.tail.length x.tc
def NT.kidsV(x:NT):Value:=.slice x.ka x.ks.length x.kc
structure NT.GOwn (w:World) (x:NT):Prop where
 cells:w.rangeAt x.pc 0 x.gcells
 there:w.there x.pc 0 3
 runes:w.ownsRow 0 3 1 x.runesV x.ts.tail.length (x.ts.tail.map (Value.int .i64))
 kids:w.ownsRow 0 55 1 x.kidsV x.ks.length (x.ks.map ptrV)
 hts:x.ts≠[]
 lf:x.lf=false
 ps:x.ps=[]
inductive NT.G (w:World):NT->Prop
 | mk (x:NT) (own:x.GOwn w) (all:∀ k∈x.ks,NT.G w k):NT.G w x
theorem NT.G.own{w:World}{x:NT}(h:x.G w):x.GOwn w:=by cases h;assumption
theorem NT.G.all{w:World}{x:NT}(h:x.G w):∀ k∈x.ks,k.G w:=by cases h;assumption
def ownL(v:Value):List Nat:=match v.ownBlock with
 | some b=>[b]
 | none=>[]
theorem mem_ownL{v:Value}{b:Nat}:b∈ownL v ↔ zb4 v b:=by
 unfold ownL zb4
 cases v.ownBlock with
 | none=>simp
 | some c =>
  simp only[List.mem_singleton,Option.some.injEq];exact⟨fun h=>h.symm,fun h=>h.symm⟩
def NT.ob(x:NT):List Nat:=x.pc::(ownL x.runesV++ownL x.kidsV)
mutual
/-- the blocks of a tree of ghosts -/
def NT.gb:NT->List Nat
 | .mk lf pa pc ps ta tc ts ka kc ks=>(NT.mk lf pa pc ps ta tc ts ka kc ks).ob++NT.gbs ks
def NT.gbs:List NT->List Nat
 | []=>[]
 | k::r=>NT.gb k++NT.gbs r
end
theorem NT.gb_eq(x:NT):x.gb=x.ob++NT.gbs x.ks:=by cases x;rw[NT.gb];rfl
theorem NT.gbs_app(a b:List NT):NT.gbs (a++b)=NT.gbs a++NT.gbs b:=by
 induction a with
 | nil=>rfl
 | cons k r ih=>rw[List.cons_append,NT.gbs,NT.gbs,ih,List.append_assoc]
theorem NT.mem_gbs{l:List NT}{k:NT}(hk:k∈l){b:Nat}(hb:b∈k.gb):b∈NT.gbs l:=by
 induction l with
 | nil=>cases hk
 | cons x r ih =>
  rw[NT.gbs]
  rcases List.mem_cons.1 hk with rfl | hk
  ·exact List.mem_append_left _ hb
  ·exact List.mem_append_right _ (ih hk)
theorem zcd{S:Nat->Prop}{w w':World}{B k n:Nat}{t:TypeId}{v:Value}{xs:List Value}(h:w.ownsRow B t k v n xs)(hk:Keeps S w w')(hd:∀ j,zb4 v j->¬ S j):w'.ownsRow B t k v n xs:=by
 obtain⟨h1,h2⟩:=h;refine⟨h1,?_⟩
 rcases h2 with h2 | ⟨g,cap,cur,hv,hg2,hh,r⟩
 ·exact Or.inl h2
 ·have hlt:g < w.heap.size:=by
   rcases Nat.lt_or_ge g w.heap.size with h1 | h1
   ·exact h1
   ·rw[Array.getElem?_eq_none h1] at hh;cases hh
  exact Or.inr ⟨g,cap,cur,hv,hg2,(hk.block g hlt (hd g (by subst hv;rfl))).trans hh,r⟩
theorem there_keeps{w w':World}{O:Nat->Prop}{b o n:Nat}(h:w.there b o n)(hk:Keeps O w w')(hb:b < w.heap.size)(hO:¬ O b):w'.there b o n:=fun j hj=>by
 obtain⟨q1,q2⟩:=h j hj;exact⟨by rw[hk.cell (p:=⟨b,o+j,none⟩) hb hO];exact q1,by rw[hk.frozen (p:=⟨b,o+j,none⟩) hb hO];exact q2⟩
theorem NT.GOwn.keeps{O:Nat->Prop}{w w':World}{x:NT}(h:x.GOwn w)(hk:Keeps O w w')(hO:∀ b∈x.ob,¬ O b)(hlt:∀ b∈x.ob,b < w.heap.size):x.GOwn w':=by
 have hp:=hO x.pc (List.mem_cons_self ..);have hl:=hlt x.pc (List.mem_cons_self ..);refine⟨zcr h.cells hk hl hp,there_keeps h.there hk hl hp,zcd h.runes hk (fun j hj=>hO j ?_),zcd h.kids hk (fun j hj=>hO j ?_),h.hts,h.lf,h.ps⟩
 ·exact List.mem_cons_of_mem _ (List.mem_append_left _ (mem_ownL.2 hj))
 ·exact List.mem_cons_of_mem _ (List.mem_append_right _ (mem_ownL.2 hj))
theorem NT.G.keeps{O:Nat->Prop}{w w':World}(hk:Keeps O w w'):∀ {x:NT},x.G w->(∀ b∈x.gb,¬ O b)->(∀ b∈x.gb,b < w.heap.size)->x.G w':=by
 intro x
 induction x using NT.ind with
 | h x ih =>
  intro h hO hlt;rw[NT.gb_eq] at hO hlt;refine⟨x,h.own.keeps hk (fun b hb=>hO b (List.mem_append_left _ hb)) (fun b hb=>hlt b (List.mem_append_left _ hb)),fun k hk'=>ih k hk' (h.all k hk') (fun b hb=>hO b (List.mem_append_right _ (NT.mem_gbs hk' hb))) (fun b hb=>hlt b (List.mem_append_right _ (NT.mem_gbs hk' hb)))⟩
structure NT.GOk (w:World) (x:NT):Prop where
 g:x.G w
 nd:x.gb.Nodup
 lt:∀ b∈x.gb,b < w.heap.size
theorem NT.GOk.keeps{O:Nat->Prop}{w w':World}{x:NT}(h:x.GOk w)(hk:Keeps O w w')(hO:∀ b∈x.gb,¬ O b):x.GOk w':=⟨h.g.keeps hk hO h.lt,h.nd,fun b hb=>Nat.lt_of_lt_of_le (h.lt b hb) hk.size⟩
theorem NT.GOk.grew{w w':World}{x:NT}(h:x.GOk w)(hg:Grew w w'):x.GOk w':=h.keeps (O:=fun j=>w.heap.size<=j) (hg.keeps _) (fun b hb=>Nat.not_le.2 (h.lt b hb))
theorem NT.GOk.kid{w:World}{x k:NT}(h:x.GOk w)(hk:k∈x.ks):k.GOk w:=by
 have hs:k.gb.Sublist (NT.gbs x.ks):=by
  generalize x.ks=l at hk
  induction l with
  | nil=>cases hk
  | cons y r ih =>
   rw[NT.gbs]
   rcases List.mem_cons.1 hk with rfl | hk
   ·exact List.sublist_append_left _ _
   ·exact (ih hk).trans (List.sublist_append_right _ _)
 have hnd:=h.nd;rw[NT.gb_eq] at hnd;exact⟨h.g.all k hk,(List.nodup_append.1 hnd).2.1.sublist hs,fun b hb=>h.lt b (by rw[NT.gb_eq];exact List.mem_append_right _ (hs.subset hb))⟩
theorem NT.gbs_get{l:List NT}{i:Nat}(hi:i < l.length):(NT.gbs l).Perm ((l.getD i default).gb++NT.gbs (l.eraseIdx i)):=by
 induction l generalizing i with
 | nil=>exact absurd hi (Nat.not_lt_zero _)
 | cons k r ih =>
  cases i with
  | zero=>exact List.Perm.refl _
  | succ i =>
   rw[List.getD_cons_succ,List.eraseIdx_cons_succ,NT.gbs,NT.gbs];refine ((ih (by simpa using hi)).append_left k.gb).trans ?_;rw[<- List.append_assoc,<- List.append_assoc];exact (List.perm_append_comm).append_right _
theorem NT.gbs_set{l:List NT}{i:Nat}(hi:i < l.length)(y:NT):(NT.gbs (l.set i y)).Perm (y.gb++NT.gbs (l.eraseIdx i)):=by
 have h:=NT.gbs_get (l:=l.set i y) (i:=i) (by rw[List.length_set];exact hi);have h1:(l.set i y).getD i default=y:=by simp[List.getD,hi]
 have h2:(l.set i y).eraseIdx i=l.eraseIdx i:=by rw[List.eraseIdx_set_eq]
 rw[h1,h2] at h;exact h
theorem NT.setAt_cons(y x:NT)(i:Int)(r:List Int):NT.setAt y x (i::r)=.mk x.lf x.pa x.pc x.ps x.ta x.tc x.ts x.ka x.kc (x.ks.set i.toNat (NT.setAt y (x.ks.getD i.toNat default) r)):=rfl
theorem NT.gb_split{t:T}:∀ {p:List Int} {x:NT},x.er.at p=some t->∃ rest,x.gb.Perm ((x.sub p).gb++rest)/\∀ y':NT,y'.pc=(x.sub p).pc->(NT.setAt y' x p).gb.Perm (y'.gb++rest)/\(NT.setAt y' x p).pc=x.pc:=by
 intro p
 induction p with
 | nil =>
  intro x _;exact⟨[],by rw[List.append_nil];exact List.Perm.refl _,fun y' h=>⟨by rw[List.append_nil];exact List.Perm.refl _,h⟩⟩
 | cons i r ih =>
  intro x h;obtain⟨h0,h1,h2⟩:=T.at_of h;rw[NT.er_ks,List.length_map] at h1;rw[NT.er_ks,<- za2] at h2;obtain⟨rest,hp,hy⟩:=ih h2;have hi:i.toNat < x.ks.length:=by omega
  have perm:∀(a b c d:List Nat),(a++(b++c++d)).Perm (b++(a++(c++d))):=fun a b c d=>by
   rw[List.append_assoc b c d,<- List.append_assoc a b,<- List.append_assoc b a];exact (List.perm_append_comm).append_right _
  refine⟨x.ob++(rest++NT.gbs (x.ks.eraseIdx i.toNat)),?_,fun y' hpc=>⟨?_,rfl⟩⟩
  ·rw[NT.gb_eq,NT.sub];refine (((NT.gbs_get hi).trans (hp.append_right _)).append_left x.ob).trans ?_;exact perm _ _ _ _
  ·obtain⟨q1,q2⟩:=hy y' hpc;rw[NT.setAt_cons,NT.gb_eq]
   have hob:(NT.mk x.lf x.pa x.pc x.ps x.ta x.tc x.ts x.ka x.kc (x.ks.set i.toNat (NT.setAt y' (x.ks.getD i.toNat default) r))).ob=x.ob:=by
    unfold NT.ob NT.runesV NT.kidsV
    simp
   rw[hob];refine ((NT.gbs_set hi _).append_left x.ob).trans ?_;refine ((q1.append_right _).append_left x.ob).trans ?_;exact perm _ _ _ _
theorem NT.GOwn.setKid{w:World}{x:NT}(h:x.GOwn w){i:Nat}{y:NT}(hpc:y.pc=(x.ks.getD i default).pc):(NT.mk x.lf x.pa x.pc x.ps x.ta x.tc x.ts x.ka x.kc (x.ks.set i y)).GOwn w:=by
 have hm:(x.ks.set i y).map ptrV=x.ks.map ptrV:=by
  apply List.ext_getElem
  ·simp
  ·intro j h1 h2;simp only[List.length_map,List.length_set] at h1 h2;rw[List.getElem_map,List.getElem_map,List.getElem_set]
   split
   ·rename_i e
    subst e;unfold ptrV;rw[hpc,List.getD,List.getElem?_eq_getElem h2];rfl
   ·rfl
 refine⟨?_,h.there,h.runes,?_,h.hts,h.lf,h.ps⟩
 ·have:=h.cells;unfold NT.gcells at this ⊢
  simpa using this
 ·have:=h.kids;unfold NT.kidsV at this ⊢;simp only[NT.ka_mk,NT.kc_mk,NT.ks_mk,List.length_set,hm] at this ⊢;exact this
theorem NT.GOk.put{O:Nat->Prop}{w w':World}(hk:Keeps O w w'){F:List Nat}{y':NT}{t:T}:∀ {p:List Int} {x:NT},x.GOk w->x.er.at p=some t->(∀ j,O j->j∈(x.sub p).gb\/w.heap.size<=j\/j∈F)->y'.pc=(x.sub p).pc->y'.GOk w' ->
  (∀ b∈y'.gb,b∈(x.sub p).gb\/w.heap.size<=b\/b∈F)->(∀ b∈F,b ∉ x.gb)->(NT.setAt y' x p).GOk w':=by
 intro p x hx hat hO hpc hy hb hF;obtain⟨rest,hp1,hp2⟩:=NT.gb_split hat;obtain⟨q1,q2⟩:=hp2 y' hpc;have hnd:=hp1.nodup_iff.1 hx.nd;obtain⟨hn1,hnr,hdis⟩:=List.nodup_append.1 hnd;have hrl:∀ b∈rest,b < w.heap.size:=fun b hb=>hx.lt b (hp1.mem_iff.2 (List.mem_append_right _ hb));refine⟨?_,?_,?_⟩
 ·-- the cells
  clear hp1 hp2 q1 q2 hnd hnr hn1 hdis hrl rest
  induction p generalizing x with
  | nil=>exact hy.g
  | cons i r ih =>
   obtain⟨h0,h1,h2⟩:=T.at_of hat;rw[NT.er_ks,List.length_map] at h1;rw[NT.er_ks,<- za2] at h2;have hi:i.toNat < x.ks.length:=by omega
   have hmem:x.ks.getD i.toNat default∈x.ks:=by
    rw[List.getD,List.getElem?_eq_getElem hi];exact List.getElem_mem hi
   have hkok:=hx.kid hmem;obtain⟨rk,hk1,hk2⟩:=NT.gb_split h2;have hsub:∀ b,b∈(x.sub (i::r)).gb->b∈(x.ks.getD i.toNat default).gb:=fun b hb=>hk1.mem_iff.2 (List.mem_append_left _ hb);have hxnd:=hx.nd;rw[NT.gb_eq] at hxnd;have hper:=NT.gbs_get hi;obtain⟨_,hn2,hd2⟩:=List.nodup_append.1 hxnd;have hn3:=hper.nodup_iff.1 hn2;obtain⟨_,_,hd3⟩:=List.nodup_append.1 hn3
   have hobO:∀ b∈x.ob,¬ O b:=fun b hb hob=>by
    rcases hO b hob with h | h | h
    ·exact hd2 b hb b (NT.mem_gbs hmem (hsub b h)) rfl
    ·have:=hx.lt b (by rw[NT.gb_eq];exact List.mem_append_left _ hb);omega
    ·exact hF b h (by rw[NT.gb_eq];exact List.mem_append_left _ hb)
   have hown:=hx.g.own.keeps hk hobO (fun b hb=>hx.lt b (by rw[NT.gb_eq];exact List.mem_append_left _ hb));have hpk:(NT.setAt y' (x.ks.getD i.toNat default) r).pc=(x.ks.getD i.toNat default).pc:=(hk2 y' hpc).2;rw[NT.setAt_cons];refine⟨_,hown.setKid hpk,fun k hkm=>?_⟩;have hkm:k∈x.ks.set i.toNat (NT.setAt y' (x.ks.getD i.toNat default) r):=hkm;rw[List.mem_iff_getElem] at hkm;obtain⟨j,hj,rfl⟩:=hkm;rw[List.length_set] at hj;rw[List.getElem_set]
   split
   ·refine ih hkok h2 (fun j hj=>?_) hpc (fun b hb'=>hb b hb') (fun b hb' hm=>hF b hb' (by rw[NT.gb_eq];exact List.mem_append_right _ (NT.mem_gbs hmem hm)));exact hO j hj
   ·rename_i hne
    have hmem2:x.ks[j]∈x.ks.eraseIdx i.toNat:=by
     rw[List.mem_eraseIdx_iff_getElem];exact⟨j,hj,fun e=>hne e.symm,rfl⟩
    refine (hx.kid (List.getElem_mem hj)).g.keeps hk (fun b hb' hob=>?_) (hx.kid (List.getElem_mem hj)).lt
    rcases hO b hob with h | h | h
    ·exact hd3 b (hsub b h) b (NT.mem_gbs hmem2 hb') rfl
    ·have:=(hx.kid (List.getElem_mem hj)).lt b hb';omega
    ·exact hF b h (by rw[NT.gb_eq];exact List.mem_append_right _ (NT.mem_gbs (List.getElem_mem hj) hb'))
 ·refine q1.nodup_iff.2 (List.nodup_append.2 ⟨hy.nd,hnr,fun a ha b hbr e=>?_⟩);subst e
  rcases hb a ha with h | h | h
  ·exact hdis a h a hbr rfl
  ·have:=hrl a hbr;omega
  ·exact hF a h (hp1.mem_iff.2 (List.mem_append_right _ hbr))
 ·intro b hb'
  rcases List.mem_append.1 (q1.mem_iff.1 hb') with h | h
  ·exact hy.lt b h
  ·exact Nat.lt_of_lt_of_le (hrl b h) hk.size
theorem owns_at{w:World}{t:TypeId}{a:Option Addr}{n c:Nat}{xs:List Value}(h:w.ownsRow 0 t 1 (.slice a n c) n xs){m:Nat}(hm:m < n):∃ b,a=some ⟨b,0,none⟩/\b < w.heap.size/\w.cell? ⟨b,m,none⟩=some (xs.getD m undef):=by
 have hl:xs.length=n:=by have:=h.1;omega
 rcases h.2 with ⟨_,h0⟩ | ⟨g,cap,cur,hv,_,hh,_⟩
 ·omega
 ·have ha:a=some ⟨g,0,none⟩:=by injection hv
  have hr:=(zb6 (f:=fun i _=>xs.getD i undef) h (fun i hi j hj=>by
   obtain rfl:j=0:=by omega
   simp[List.getD,List.getElem?_eq_getElem (show i < xs.length by omega)])).1
  obtain⟨b,o,e,_,hb,hc⟩:=hr.2 (by omega);rw[ha] at e;injection e with e
  injection e with e1 e2
  subst e1 e2;have:=hc m hm 0 (by omega);exact⟨g,ha,hb,by simpa using this⟩
theorem NT.GOwn.kid_at{w:World}{x:NT}(h:x.GOwn w){m:Nat}(hm:m < x.ks.length):∃ b,x.ka=some ⟨b,0,none⟩/\b < w.heap.size/\w.cell? ⟨b,m,none⟩=some (ptrV (x.ks.getD m default)):=by
 obtain⟨b,h1,h2,h3⟩:=owns_at h.kids hm;refine⟨b,h1,h2,?_⟩;rw[h3]
 simp[List.getD,List.getElem?_eq_getElem hm]
theorem NT.GOwn.at{w:World}{x:NT}(h:x.GOwn w):w.cell? ⟨x.pc,0,none⟩=some (.int .i64 (x.ts.headD 0))/\w.cell? ⟨x.pc,1,none⟩=some (.slice x.ta x.ts.tail.length x.tc)/\w.cell? ⟨x.pc,2,none⟩=some (.slice x.ka x.ks.length x.kc) :=
 ⟨zcp h.cells (j:=0) rfl,zcp h.cells (j:=1) rfl,zcp h.cells (j:=2) rfl⟩
theorem NT.G.sub{w:World}{t:T}:∀ {p:List Int} {x:NT},x.G w->x.er.at p=some t->(x.sub p).G w:=by
 intro p
 induction p with
 | nil=>intro x h _;exact h
 | cons i r ih =>
  intro x h e;obtain⟨h0,h1,h2⟩:=T.at_of e;rw[NT.er_ks,List.length_map] at h1;rw[NT.er_ks,<- za2] at h2;exact ih (h.all _ (zbi x.ks i.toNat (by omega))) h2
theorem za8(x:NT){t:T}(pa:Option Addr)(pc:Nat)(p:List Int)(w:World)(hx:x.G w)(hp:IntsIn w 0 w.heap.size pa pc p)(hat:x.er.at p=some t)(hl:p.length<=1048576) :
  Calls Tryz.prog 23 #[.pointer (some ⟨x.pc,0,none⟩),.slice pa p.length pc] w fun e w'=>e=.returned (.pointer (some ⟨(x.sub p).pc,0,none⟩))/\w'=w:=by
 go_enter Tryz.func23,Tryz.ntmps23
 go_wp2_with fail
 go_loop [0,9] (fun v i=>∃(k:Nat) (y:NT),k<=p.length/\i=.int .i64 k/\v=.pointer (some ⟨y.pc,0,none⟩)/\Hid (y.G w)/\Hid (y.er.at (p.drop k)=some t)/\Hid (x.sub p=y.sub (p.drop k))) (fun _ i=>p.length - (intOf i).toNat)
 case atStart=>exact⟨0,x,by omega,rfl,rfl,hx,(by show _=_;exact hat),(by show _=_;rfl)⟩
 case round =>
  obtain⟨k,y,hk1,rfl,rfl,hY,hA,hS⟩:=hrel;clear hx hat
  by_cases hlt:k < p.length
  ·obtain⟨pb,po,rfl,_,hpb,hpc⟩:=hp.at hlt;have hD:=za0 p k hlt;have e0:p.getD k default=p.getD k 0:=rfl;rw[e0] at hD;generalize p.getD k 0=i at *;have hA':=hA.out;rw[hD] at hA';obtain⟨h0,h1,h2⟩:=T.at_of hA';rw[NT.er_ks,List.length_map] at h1;rw[NT.er_ks,<- za2] at h2;obtain⟨m,rfl⟩:∃ m:Nat,i=m:=⟨i.toNat,by omega⟩
   have hm:m < y.ks.length:=by omega
   rw[Int.toNat_natCast] at h2;obtain⟨_,_,c2⟩:=hY.out.own.at;obtain⟨kb,hka,hkb,hkc⟩:=hY.out.own.kid_at hm;rw[hka] at c2;have HN:=zQ0 (hY.out.all _ (zbi y.ks m hm));have HA:=zQ0 h2
   have HS:Hid (x.sub p=(y.ks.getD m default).sub (p.drop (k+1))):=by
    show _=_
    rw[hS.out,hD,NT.sub];rfl
   unfold ptrV at hkc;clear hD e0 hA hA' hS h2 hka h0;generalize y.ks.getD m default=z at *;have ht:decide ((m:Int) < 0)=false:=by simp
   have ht2:decide ((y.ks.length:Int)<=(m:Int))=false:=by simp;omega
   have hm2:(m:Int) < y.ks.length:=by omega
   go_wp2_with fail
   go_round
   case rel=>exact⟨k+1,z,by omega,by go_num,rfl,HN,HA,HS⟩
   case measure=>simp[intOf];omega
  ·obtain rfl:p.length=k:=by omega
   have HR:Hid (x.sub p=y):=by show _=_;rw[hS.out,List.drop_length];rfl
   clear hY hA hS;go_wp2_with fail
   go_ret
   exact⟨by rw[HR.out];rfl,rfl⟩
theorem ptr_len(k:NT):[ptrV k].length=1:=rfl
theorem infoPtr:(Tryz.prog.info? 55).map (fun i=>(i.zero,i.size,i.bytes))=some (some (.pointer none),1,8):=by kernel_rfl
abbrev zad (S:Nat->Prop) (B:Nat) (w:World) (v:Value) (L:List NT):Prop:=Built S 55 1 (fun k:NT=>[ptrV k]) (fun _ _=>True) B w v L
def PtrRow(w:World)(a:Option Addr)(c:Nat)(L:List NT):Prop:=RowIn w 0 w.heap.size a L.length c 1 (fun i j=>([ptrV (L.getD i default)]:List Value).getD j undef)
theorem NT.GOwn.row{w:World}{x:NT}(h:x.GOwn w):PtrRow w x.ka x.kc x.ks :=
 (zb6 (f:=fun i j=>([ptrV (x.ks.getD i default)]:List Value).getD j undef) h.kids (fun i hi j hj=>by
  obtain rfl:j=0:=by omega
  simp[List.getD,List.getElem?_eq_getElem hi])).1
theorem PtrRow.take{w:World}{a:Option Addr}{c:Nat}{L:List NT}(h:PtrRow w a c L)(k:Nat)(hk:k<=L.length):RowIn w 0 w.heap.size a (L.take k).length c 1 (fun i j=>([ptrV ((L.take k).getD i default)]:List Value).getD j undef):=by
 refine⟨⟨fun e=>?_,Nat.le_trans (by rw[List.length_take];omega) h.1.2.1,h.1.2.2⟩,fun hn=>?_⟩
 ·obtain⟨h1,h2⟩:=h.1.1 e;exact⟨by rw[List.length_take];omega,h2⟩
 ·have hn2:0 < L.length:=by simp at hn;omega
  obtain⟨b2,o2,e,h1,h2,hc⟩:=h.2 hn2;refine⟨b2,o2,e,h1,h2,fun i hi j hj=>?_⟩;have hi2:i < k/\i < L.length:=by simp at hi;omega
  rw[hc i hi2.2 j hj]
  simp[List.getD,hi2.1]
theorem PtrRow.drop{w:World}{b o c:Nat}{L:List NT}(h:PtrRow w (some ⟨b,o,none⟩) c L)(k:Nat)(hk:k<=c):RowIn w 0 w.heap.size (some ⟨b,o+k,none⟩) (L.drop k).length (c - k) 1 (fun i j=>([ptrV ((L.drop k).getD i default)]:List Value).getD j undef):=by
 have h1:=h.1.2.1;have h2:=h.1.2.2;refine⟨⟨fun e=>by simp at e,by simp;omega,by omega⟩,fun hn=>?_⟩;have hn2:0 < L.length:=by simp at hn;omega
 obtain⟨b2,o2,e,h1,h2,hc⟩:=h.2 hn2;injection e with e
 injection e with e1 e2
 refine⟨b,o+k,rfl,by omega,by omega,fun i hi j hj=>?_⟩;obtain rfl:j=0:=by omega
 have hi2:k+i < L.length:=by simp at hi;omega
 have:=hc (k+i) hi2 0 (by omega);rw[<- e1,<- e2] at this;rw[show o+k+i * 1+0=o+(k+i) * 1+0 by omega,this]
 simp[List.getD,List.getElem?_drop]
theorem zcH{w w':World}{a:Option Addr}{n c k:Nat}{f:Nat->Nat->Value}(h:RowIn w 0 w.heap.size a n c k f)(g:Grew w w'):RowIn w' 0 w'.heap.size a n c k f:=(RowIn.agree h (g.agree zQ1)).mono zQ1 g.size
theorem zdq{w:World}{ops:Array Oper}{rest:List Oper}{o:Oper}{a:Act}{Q:Exit->Act->World->Prop}(hgd:o.guard=none)(s x:Operand)(ho:o.op=.call { callee:=.builtin .append,args:=#[s,x],argTypes:=#[59,59] })(dst:Option Tmp)(hdst:o.dst=dst){S:Nat->Prop}{B:Nat}(v:Value)(L M:List NT)(hs:a.eval s=v)(hB:zad S B w v L)(xa:Option Addr)(c lo hi:Nat)(hx:a.eval x=.slice xa M.length c)(hrow:RowIn w lo hi xa M.length c 1 (fun i j=>([ptrV (M.getD i default)]:List Value).getD j undef))(h63:L.length+M.length<=4194304)(hbase:B<=w.heap.size)(h:∀ v' w',zad S B w' v' (L++M)->Moves (zb4 v) w (zb4 v') w'->wpList Tryz.prog ops Q rest (a.put dst v') w'):wpList Tryz.prog ops Q (o::rest) a w :=
 zdo hgd s x 59 ho dst hdst Tryz.underlying59 infoPtr rfl (by decide) (by decide) ptr_len (fun x u hu=>by rw[List.mem_singleton.1 hu];rfl) v L M hs hB xa c lo hi hx hrow (fun _ _ _ _=>trivial) h63 hbase h
theorem zbd(L:List NT):L.flatMap (fun k=>[ptrV k])=L.map ptrV:=by
 induction L with
 | nil=>rfl
 | cons k r ih=>rw[List.flatMap_cons,ih];rfl
theorem zca{w:World}{B B':Nat}{t:TypeId}{k n:Nat}{v:Value}{xs:List Value}(h:w.ownsRow B t k v n xs)(hb:B'<=B):w.ownsRow B' t k v n xs:=by
 refine⟨h.1,?_⟩
 rcases h.2 with h2 | ⟨g,cap,cur,hv,hg,r⟩
 ·exact Or.inl h2
 ·exact Or.inr ⟨g,cap,cur,hv,Nat.le_trans hb hg,r⟩
theorem zdy{w:World}{b o n:Nat}(h:w.there b o n)(p:Addr)(v:Value):(w.setCell p v).there b o n:=fun j hj=>by
 obtain⟨h1,h2⟩:=h j hj;refine⟨?_,by rw[World.frozen?_setCell];exact h2⟩
 by_cases e:p=⟨b,o+j,none⟩
 ·subst e;rw[World.cell?_setCell_same' _ _ _ h1];rfl
 ·rw[World.cell?_setCell_other _ _ _ _ e];exact h1
theorem NT.of_gbs{l:List NT}{b:Nat}(h:b∈NT.gbs l):∃ k∈l,b∈k.gb:=by
 induction l with
 | nil=>cases h
 | cons k r ih =>
  rw[NT.gbs] at h
  rcases List.mem_append.1 h with h | h
  ·exact⟨k,by simp,h⟩
  ·obtain⟨x,hx,hb⟩:=ih h;exact⟨x,by simp[hx],hb⟩
theorem NT.GOk.make{w:World}{y:NT}(own:y.GOwn w)(hg:∀ k∈y.ks,k.G w)(hn:(NT.gbs y.ks).Nodup)(ho:y.ob.Nodup)(hd:∀ b∈y.ob,b ∉ NT.gbs y.ks)(h1:∀ b∈y.ob,b < w.heap.size)(h2:∀ b∈NT.gbs y.ks,b < w.heap.size):y.GOk w:=by
 refine⟨⟨y,own,hg⟩,?_,fun b hb=>?_⟩
 ·rw[NT.gb_eq];exact List.nodup_append.2 ⟨ho,hn,fun a ha b hb e=>hd a ha (e ▸ hb)⟩
 ·rw[NT.gb_eq] at hb
  rcases List.mem_append.1 hb with h | h
  ·exact h1 b h
  ·exact h2 b h
def NT.reKids(u:NT)(a:Option Addr)(c:Nat)(ks:List NT):NT:=.mk u.lf u.pa u.pc u.ps u.ta u.tc u.ts a c ks
theorem NT.GOk.reKids{w w2:World}{u:NT}{a2:Option Addr}{c2:Nat}{ks:List NT}(hu:u.GOk w)(hg:Grew w w2)(hrow:w2.ownsRow w.heap.size 55 1 (.slice a2 ks.length c2) ks.length (ks.map ptrV))(hk:∀ k∈ks,k.GOk w2)(hn:(NT.gbs ks).Nodup)(hd:∀ b∈NT.gbs ks,b≠u.pc/\¬ zb4 u.runesV b/\¬ zb4 (.slice a2 ks.length c2) b) :
  (u.reKids a2 c2 ks).GOk (w2.setCell ⟨u.pc,2,none⟩ (.slice a2 ks.length c2))/\Keeps (·=u.pc) w (w2.setCell ⟨u.pc,2,none⟩ (.slice a2 ks.length c2))/\(∀ b∈(u.reKids a2 c2 ks).gb,b∈u.ob\/w.heap.size<=b\/b∈NT.gbs ks):=by
 have hown:=(hu.grew hg).g.own;have hul:∀ b∈u.ob,b < w.heap.size:=fun b hb=>hu.lt b (by rw[NT.gb_eq];exact List.mem_append_left _ hb);have hpl:=hul u.pc (List.mem_cons_self ..);have hnd:=hu.nd;rw[NT.gb_eq] at hnd;have hond:=(List.nodup_append.1 hnd).1
 have hrp:∀ j,zb4 u.runesV j->j≠u.pc:=fun j hj e=>by
  have:=(List.nodup_cons.1 hond).1;exact this (List.mem_append_left _ (mem_ownL.2 (e ▸ hj)))
 have hrl:∀ j,zb4 u.runesV j->j < w.heap.size:=fun j hj=>hul j (List.mem_cons_of_mem _ (List.mem_append_left _ (mem_ownL.2 hj)));have hvl:∀ j,zb4 (.slice a2 ks.length c2) j->w.heap.size<=j/\j < w2.heap.size:=fun j hj=>hrow.lt j hj;have k1:Keeps (·=u.pc) w2 (w2.setCell ⟨u.pc,2,none⟩ (.slice a2 ks.length c2)):=(Keeps.refl (·=u.pc) w2).own _ _;have hsz:(w2.setCell ⟨u.pc,2,none⟩ (.slice a2 ks.length c2)).heap.size=w2.heap.size:=World.size_setCell ..;have hz:=hg.size;refine⟨?_,(hg.keeps _).trans k1,?_⟩
 ·refine NT.GOk.make ?_ (fun k hk'=>((hk k hk').keeps k1 (fun b hb e=>(hd b (NT.mem_gbs hk' hb)).1 e)).g) hn ?_ (fun b hb hm=>?_) (fun b hb=>?_) (fun b hb=>?_)
  ·refine⟨?_,?_,?_,?_,hown.hts,hown.lf,hown.ps⟩
   ·intro j v hj;have h3:=hown.there 2 (by decide);have hb2:u.pc < w2.heap.size:=by omega
    match j,hj with
    | 0,hj=>rw[World.cell?_setCell_other _ _ _ _ (by simp)];exact hown.cells 0 v hj
    | 1,hj=>rw[World.cell?_setCell_other _ _ _ _ (by simp)];exact hown.cells 1 v hj
    | 2,hj =>
     have hv:v=.slice a2 ks.length c2:=by
      have:(some (.slice a2 ks.length c2):Option Value)=some v:=hj;injection this with e;exact e.symm
     subst hv;exact World.cell?_setCell_same' _ _ _ (by simpa using h3.1)
   ·exact zdy hown.there _ _
   ·exact zcd hown.runes k1 (fun j hj=>hrp j hj)
   ·exact zcd (zca hrow (Nat.zero_le _)) k1 (fun j hj e=>by have:=(hvl j hj).1;have e:j=u.pc:=e;omega)
  ·show (u.pc::(ownL u.runesV++ownL (.slice a2 ks.length c2))).Nodup
   have hn1:(ownL u.runesV).Nodup:=by unfold ownL;split <;> simp
   have hn2:(ownL (.slice a2 ks.length c2)).Nodup:=by unfold ownL;split <;> simp
   refine List.nodup_cons.2 ⟨fun hm=>?_,List.nodup_append.2 ⟨hn1,hn2,fun a ha b hb e=>?_⟩⟩
   ·rcases List.mem_append.1 hm with h | h
    ·exact hrp _ (mem_ownL.1 h) rfl
    ·have:=(hvl _ (mem_ownL.1 h)).1;omega
   ·have h1:=hrl a (mem_ownL.1 ha);have h2:=(hvl b (mem_ownL.1 hb)).1;omega
  ·have hb:b∈u.pc::(ownL u.runesV++ownL (.slice a2 ks.length c2)):=hb;have hm:b∈NT.gbs ks:=hm;obtain⟨q1,q2,q3⟩:=hd b hm
   rcases List.mem_cons.1 hb with h | h
   ·exact q1 h
   ·rcases List.mem_append.1 h with h | h
    ·exact q2 (mem_ownL.1 h)
    ·exact q3 (mem_ownL.1 h)
  ·rw[hsz];have hb:b∈u.pc::(ownL u.runesV++ownL (.slice a2 ks.length c2)):=hb
   rcases List.mem_cons.1 hb with h | h
   ·omega
   ·rcases List.mem_append.1 h with h | h
    ·have:=hrl b (mem_ownL.1 h);omega
    ·exact (hvl b (mem_ownL.1 h)).2
  ·rw[hsz];have hb:b∈NT.gbs ks:=hb;obtain⟨k,hk1,hk2⟩:=NT.of_gbs hb;exact (hk k hk1).lt b hk2
 ·intro b hb;rw[NT.gb_eq] at hb
  rcases List.mem_append.1 hb with h | h
  ·have h:b∈u.pc::(ownL u.runesV++ownL (.slice a2 ks.length c2)):=h
   rcases List.mem_cons.1 h with h | h
   ·exact .inl (h ▸ List.mem_cons_self ..)
   ·rcases List.mem_append.1 h with h | h
    ·exact .inl (List.mem_cons_of_mem _ (List.mem_append_left _ h))
    ·exact .inr (.inl (hvl b (mem_ownL.1 h)).1)
  ·exact .inr (.inr h)
end Go.Proofs.YtccobobnmpafbaaGreatDoor
