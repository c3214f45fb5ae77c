/- HOW OFTEN a label stands in a ghost: counted over all nodes; plain. -/
import Derived.Test.YtbhbekocmpmjfaaGreatDoorK36
import Derived.Test.YtbhbekocmpmjfaaGreatDoorK15
namespace Go.Proofs.YtbhbekocmpmjfaaGreatDoor
open Go Go.RowKit
mutual
/-- the sum,over all nodes,of what a node's own row counts for -/
def T.tot (f:List Int→Nat):T→Nat
 | .mk _ _ ts ks=>f ts+T.tots f ks
def T.tots (f:List Int→Nat):List T→Nat
 | []=>0
 | k::r=>T.tot f k+T.tots f r
end
theorem T.tot_eq(f:List Int→Nat)(t:T):t.tot f=f t.ts+T.tots f t.ks:=by cases t;rw[T.tot];rfl
theorem T.tots_nil(f:List Int→Nat):T.tots f []=0:=by rw[T.tots]
theorem T.tots_cons(f:List Int→Nat)(k:T)(r:List T):T.tots f (k::r)=k.tot f+T.tots f r:=by rw[T.tots]
theorem T.tots_append(f:List Int→Nat):∀(a b:List T),T.tots f (a++b)=T.tots f a+T.tots f b
 | [],b=>by rw[List.nil_append,T.tots_nil,Nat.zero_add]
 | k::r,b=>by rw[List.cons_append,T.tots_cons,T.tots_cons,T.tots_append f r b,Nat.add_assoc]
theorem T.tots_set(f:List Int→Nat)(k:T):∀(l:List T) (i:Nat),i < l.length→T.tots f (l.set i k)+(l.getD i default).tot f=T.tots f l+k.tot f
 | [],i,h=>absurd h (Nat.not_lt_zero _)
 | x::r,0,_=>by simp only[List.set_cons_zero,T.tots_cons,List.getD_cons_zero];omega
 | x::r,i+1,h=>by
  have:=T.tots_set f k r i (by simpa using h);simp only[List.set_cons_succ,T.tots_cons,List.getD_cons_succ];omega
theorem T.tots_one(f:List Int→Nat):∀(l:List T) (i:Nat),i < l.length→(l.getD i default).tot f≤T.tots f l
 | [],i,h=>absurd h (Nat.not_lt_zero _)
 | x::r,0,_=>by simp only[T.tots_cons,List.getD_cons_zero];omega
 | x::r,i+1,h=>by
  have:=T.tots_one f r i (by simpa using h);simp only[T.tots_cons,List.getD_cons_succ];omega
theorem T.tot_setAt(f:List Int→Nat){y y':T}:∀ {p:List Int} {t:T},t.at p=some y→(T.setAt y' t p).tot f+y.tot f=t.tot f+y'.tot f:=by
 intro p
 induction p with
 | nil=>intro t h;injection h with h;subst h;show y'.tot f+_=_;omega
 | cons i r ih =>
  intro t h;obtain⟨h0,h1,h2⟩:=T.at_of h;have h3:=ih h2;have h4:=T.tots_set f (T.setAt y' (t.ks.getD i.toNat default) r) t.ks i.toNat (by omega);rw[T.setAt,T.tot,T.tot_eq f t];omega
theorem T.tot_kids(f:List Int→Nat)(u:T)(l:List T):(u.kids l).tot f=f u.ts+T.tots f l:=by rw[T.tot_eq];rfl
theorem T.tot_at(f:List Int→Nat){y:T}:∀ {p:List Int} {t:T},t.at p=some y→y.tot f≤t.tot f:=by
 intro p
 induction p with
 | nil=>intro t h;injection h with h;subst h;exact Nat.le_refl _
 | cons i r ih =>
  intro t h;obtain⟨h0,h1,h2⟩:=T.at_of h;have h3:=ih h2;have h4:=T.tots_one f t.ks i.toNat (by omega);rw[T.tot_eq f t];omega
theorem T.tot_own(f:List Int→Nat)(t:T):f t.ts≤t.tot f:=by rw[T.tot_eq];omega
theorem T.tot_mono{f g:List Int→Nat}(h:∀ l,f l≤g l)(t:T):t.tot f≤t.tot g:=by
 induction t using T.ind with
 | h t ih =>
  have key:∀ l:List T,(∀ k∈l,k.tot f≤k.tot g)→T.tots f l≤T.tots g l:=by
   intro l
   induction l with
   | nil=>intro _;rw[T.tots_nil,T.tots_nil];exact Nat.le_refl _
   | cons k r ihl =>
    intro hk;rw[T.tots_cons,T.tots_cons];have h1:=hk k (by simp);have h2:=ihl (fun x hx=>hk x (by simp[hx]));omega
  rw[T.tot_eq,T.tot_eq];have h1:=key t.ks ih;have h2:=h t.ts;omega
def fRun(z:Int)(l:List Int):Nat:=l.tail.count z
def fAll(z:Int)(l:List Int):Nat:=l.count z
theorem fRun_le(z:Int)(l:List Int):fRun z l≤fAll z l:=(List.tail_sublist l).count_le z
theorem fAll_row(z s:Int)(n:Nat):fAll z (s::(List.range n).map (fun i:Nat=>s+1+(i:Int)))≤1∧(¬ (s≤z∧z < s+1+n)→fAll z (s::(List.range n).map (fun i:Nat=>s+1+(i:Int)))=0):=by
 constructor
 ·refine List.nodup_iff_count.1 ?_ z;rw[List.nodup_cons];refine⟨fun h=>?_,?_⟩
  ·obtain⟨i,_,hi⟩:=List.mem_map.1 h;omega
  ·refine List.pairwise_map.2 (List.Pairwise.imp (R:=fun a b:Nat=>a≠b) (fun {a b} hab=>?_) List.nodup_range);intro h;exact hab (by omega)
 ·intro h;refine List.count_eq_zero.2 fun hm=>?_
  rcases List.mem_cons.1 hm with e | hm
  ·omega
  ·obtain⟨i,hi,e⟩:=List.mem_map.1 hm;have:=List.mem_range.1 hi;omega
theorem gh_once(z:Int)(t:T):∀ s,(gh t s).tot (fAll z)≤1∧(¬ (s≤z∧z < s+t.size)→(gh t s).tot (fAll z)=0):=by
 induction t using T.ind with
 | h t ih =>
  have key:∀(l:List T),(∀ k∈l,∀ s,(gh k s).tot (fAll z)≤1∧(¬ (s≤z∧z < s+k.size)→(gh k s).tot (fAll z)=0)) →
    ∀ s,T.tots (fAll z) (ghs l s)≤1∧(¬ (s≤z∧z < s+T.sizes l)→T.tots (fAll z) (ghs l s)=0):=by
   intro l
   induction l with
   | nil=>intro _ s;rw[ghs,T.tots_nil];exact⟨by omega,fun _=>rfl⟩
   | cons k r ihl =>
    intro hk s;rw[ghs,T.tots_cons,T.sizes];obtain⟨a1,a2⟩:=hk k (by simp) s;obtain⟨b1,b2⟩:=ihl (fun x hx=>hk x (by simp[hx])) (s+k.size)
    constructor
    ·by_cases hz:s≤z∧z < s+k.size
     ·have:=b2 (by omega);omega
     ·have:=a2 hz;omega
    ·intro hz;have h1:=a2 (by omega);have h2:=b2 (by omega);omega
  intro s;obtain⟨lf,ps,ts,ks⟩:=t;obtain⟨b1,b2⟩:=key ks ih (s+1+ts.length);obtain⟨a1,a2⟩:=fAll_row z s ts.length;rw[gh,T.tot,T.size]
  constructor
  ·by_cases hz:s≤z∧z < s+1+ts.length
   ·have:=b2 (by omega);omega
   ·have:=a2 hz;omega
  ·intro hz;have h1:=a2 (by omega);have h2:=b2 (by omega);omega
theorem gh_run_once(z:Int)(t:T):(gh t 0).tot (fRun z)≤1:=Nat.le_trans (T.tot_mono (fRun_le z) _) (gh_once z t 0).1
theorem gh_nonneg{t h:T}{p:List Int}(hp:(gh t 0).at p=some h):∀ z∈h.ts,0≤z:=by
 intro z hz;have h1:=T.tot_at (fAll z) hp;have h2:=T.tot_own (fAll z) h;have h3:0 < fAll z h.ts:=List.count_pos_iff.2 hz;have h4:=(gh_once z t 0).2
 by_cases hh:0≤z∧z < 0+(t.size:Int)
 ·exact hh.1
 ·have:=h4 hh;omega
theorem fgt_none{f:List Int→Nat}(hf:∀ l:List Int,f (l.map fun _=>-2)=0)(g:T):(fgt g).tot f=0:=by
 induction g using T.ind with
 | h g ih =>
  have key:∀ l:List T,(∀ k∈l,(fgt k).tot f=0)→T.tots f (fgts l)=0:=by
   intro l
   induction l with
   | nil=>intro _;rw[fgts,T.tots_nil]
   | cons k r ihl =>
    intro hk;rw[fgts,T.tots_cons,hk k (by simp),ihl (fun x hx=>hk x (by simp[hx]))]
  obtain⟨lf,ps,ts,ks⟩:=g;rw[fgt,T.tot,hf,key ks ih]
theorem fRun_none{z:Int}(h:0≤z)(l:List Int):fRun z (l.map fun _=>-2)=0:=by
 refine List.count_eq_zero.2 fun hm=>?_;obtain⟨_,_,e⟩:=List.mem_map.1 (List.mem_of_mem_tail hm);omega
structure Fits (f e:List Int→Nat):Prop where
 none:∀ l:List Int,f (l.map fun _=>-2)=0
 bare:f [-2]=0
 join:∀ a b:List Int,a≠[]→f (a++b.tail)+e b=f a+f b
 part:∀(a:List Int) (q:Nat),f (a.take (q+1))+f (-2::a.drop (q+1))=f a
 ins:∀(a:List Int) (q m:Nat),a≠[]→f (a.take (q+1)++List.replicate m (-2)++a.drop (q+1))=f a
 rem:∀(a:List Int) (q m:Nat),a≠[]→f (a.take (q+1)++a.drop (q+1+m))≤f a
theorem count_rep{z:Int}(h:0≤z)(m:Nat):(List.replicate m (-2:Int)).count z=0:=by
 refine List.count_eq_zero.2 fun hm=>?_;have:=(List.mem_replicate.1 hm).2;omega
theorem fits_run{z:Int}(h:0≤z):Fits (fRun z) (fun _=>0):=by
 refine⟨fRun_none h,rfl,?_,?_,?_,?_⟩
 ·intro a b ha;obtain⟨x,r,rfl⟩:=List.exists_cons_of_ne_nil ha;unfold fRun;simp only[List.cons_append,List.tail_cons,List.count_append,Nat.add_zero]
 ·intro a q
  cases a with
  | nil=>rfl
  | cons x r =>
   unfold fRun;simp only[List.take_succ_cons,List.tail_cons,List.drop_succ_cons];rw[← List.count_append,List.take_append_drop]
 ·intro a q m ha;obtain⟨x,r,rfl⟩:=List.exists_cons_of_ne_nil ha;unfold fRun;simp only[List.take_succ_cons,List.cons_append,List.tail_cons,List.drop_succ_cons,List.count_append,count_rep h,Nat.add_zero];rw[← List.count_append,List.take_append_drop]
 ·intro a q m ha;obtain⟨x,r,rfl⟩:=List.exists_cons_of_ne_nil ha;unfold fRun;have h1:q+1+m=(q+m)+1:=by omega
  simp only[List.take_succ_cons,List.cons_append,List.tail_cons,h1,List.drop_succ_cons,List.count_append]
  have h2:(r.drop (q+m)).count z≤(r.drop q).count z:=by
   rw[← List.drop_drop];exact (List.drop_sublist m _).count_le z
  have h3:(r.take q).count z+(r.drop q).count z=r.count z:=by rw[← List.count_append,List.take_append_drop]
  omega
theorem like_ne{g n:T}(h:like g n):g.ts≠[]:=by
 obtain⟨l,r,e,_⟩:=like_ts h;rw[e];exact List.cons_ne_nil _ _
theorem doG_tot{f e:List Int→Nat}(F:Fits f e){n g:T}{s:SelE}{o:OpE}(hb:n.bulk≤1048576)(hg:like g n)(ha:(zak n s o).2.2=0) :
  (o.kind=2→∃ h,g.at o.path=some h∧(doG o g).tot f+h.tot f=g.tot f) ∧
  (o.kind=3→∃ h,g.at o.path=some h∧(doG o g).tot f+e h.ts=g.tot f) ∧
  (doG o g).tot f≤g.tot f:=by
 obtain⟨hm,h⟩:=zal ha;obtain⟨hc,hl,_,hf⟩:=may_ok hm
 rcases h with ⟨h9,_,_,he⟩ | ⟨h9,hs,_,he⟩
 ·rw[doG_own (.inr h9)];exact⟨fun h=>by omega,fun h=>by omega,Nat.le_refl _⟩
 ·have hkk:=zbf hf
  rcases (show o.kind=1∨o.kind=2∨o.kind=3∨o.kind=4∨o.kind=5∨o.kind=6∨o.kind=7∨o.kind=8 by omega) with h1 | h1 | h1 | h1 | h1 | h1 | h1 | h1
  ·obtain⟨up,i,u,a,b,e1,e2,_,e3,e4,_,e8⟩:=done1 hf h1 hs;obtain⟨v,c,d,g1,g2,g3,g4,g5,g6,g7⟩:=ghost1 h1 hg e1 e2 e3 e4;refine⟨fun h=>by omega,fun h=>by omega,?_⟩;have q1:=T.tot_setAt f (y':=v.kids (c++fgt (gh o.node 0)::d)) g1;rw[T.tot_kids,T.tot_eq f v,g3,T.tots_append,T.tots_append,T.tots_cons,fgt_none F.none,← g7] at q1;omega
  ·obtain⟨up,i,u,a,b,e1,e2,e3,e4,e8⟩:=done2 hf h1 hs;obtain⟨v,h,c,d,g1,g2,g3,g4,g5,g6,g7,g8⟩:=ghostcut hg e2 e3 e4
   have hd:doG o g=T.setAt (v.kids (c++d)) g up:=by
    unfold doG;rw[if_neg (by omega),if_pos h1,e1,g8]
   have q1:=T.tot_setAt f (y':=v.kids (c++d)) g1;rw[T.tot_kids,T.tot_eq f v,g3,T.tots_append,T.tots_append,T.tots_cons,← hd] at q1;exact⟨fun _=>⟨h,by rw[e1];exact T.at_the_kid g1 g3 g4,by omega⟩,fun h=>by omega,by omega⟩
  ·obtain⟨up,i,u,x,k,a,b,e1,e2,e3,e4,_,_,_,e8⟩:=done3 (by omega) hf h1 hs
   obtain⟨v,hx,hk,c,d,g1,g2,g3,g4,g5,g6,g7,g8,g9⟩:=ghost3 h1 hg e1 e2 e3 e4 (by
    have h1:=zaw e2;have h2:=u.ks_bulk;rw[e3,List.length_append] at h2
    omega)
   have q1:=T.tot_setAt f (y':=v.kids (c++hx.gjoin hk::d)) g1
   have q2:(hx.gjoin hk).tot f+e hk.ts=hx.tot f+hk.tot f:=by
    rw[T.tot_eq f hx,T.tot_eq f hk];unfold T.gjoin;rw[T.tot,T.tots_append];have:=F.join hx.ts hk.ts (like_ne g6);omega
   rw[T.tot_kids,T.tot_eq f v,g3,T.tots_append,T.tots_append,T.tots_cons,T.tots_cons,T.tots_cons,← g9] at q1;refine⟨fun h=>by omega,fun _=>⟨hk,?_,by omega⟩,by omega⟩;rw[e1];exact T.at_the_kid g1 (show v.ks=(c++[hx])++hk::d by rw[g3,List.append_assoc];rfl) (by rw[List.length_append,g4];rfl)
  ·obtain⟨up,i,u,k,a,b,e1,e2,e3,e4,e5,p0,p1,_,e8⟩:=done4 hf h1 hs
   obtain⟨v,hk,c,d,g1,g2,g3,g4,g5,g6,g7,g9⟩:=ghost4 h1 hg e1 e2 e4 e5 (by
    have h1:=zaw e2;have h2:=u.ks_bulk;rw[e4,List.length_append] at h2
    omega)
   have q1:=T.tot_setAt f (y':=v.kids (c++hk.gfirst o.pos.toNat::hk.gsecond o.pos.toNat::d)) g1
   have q2:(hk.gfirst o.pos.toNat).tot f+(hk.gsecond o.pos.toNat).tot f=hk.tot f:=by
    rw[T.tot_eq f hk];unfold T.gfirst T.gsecond
    split
    ·rename_i hA
     rw[T.tot,T.tot,hA.2,T.tots_nil];have:=F.part hk.ts o.pos.toNat;omega
    ·rw[T.tot,T.tot,F.bare];have:T.tots f (hk.ks.take o.pos.toNat)+T.tots f (hk.ks.drop o.pos.toNat)=T.tots f hk.ks:=by rw[← T.tots_append,List.take_append_drop]
     omega
   rw[T.tot_kids,T.tot_eq f v,g3,T.tots_append,T.tots_append,T.tots_cons,T.tots_cons,T.tots_cons,← g9] at q1;exact⟨fun h=>by omega,fun h=>by omega,by omega⟩
  ·obtain⟨up,vp,i,j,u,v,k,r,a,b,c,d,e1,e2,e3,e4,er,f1,f2,f3,f4,f5,e8⟩:=done5 hf h1 hs;obtain⟨gu,h,gr,gv,a',b',c',d',g1,g2,g3,g4,g5,g6,g7,g8,g9,g10,g11,g12,g13,g14⟩:=ghost5 h1 hg e1 e2 e3 e4 er f1 f2 f4 f5;have q1:=T.tot_setAt f (y':=gu.kids (a'++b')) g1;rw[T.tot_kids,T.tot_eq f gu,g3,T.tots_append,T.tots_append,T.tots_cons,← g6] at q1;have q2:=T.tot_setAt f (y':=gv.kids (c'++h::d')) g8;rw[T.tot_kids,T.tot_eq f gv,g10,T.tots_append,T.tots_append,T.tots_cons,← g14] at q2;exact⟨fun h=>by omega,fun h=>by omega,by omega⟩
  ·rw[doG_own (.inl h1)];exact⟨fun h=>by omega,fun h=>by omega,Nat.le_refl _⟩
  ·obtain⟨k,k',e1,e2,e3⟩:=done6 hf (.inr (.inl h1)) hs;obtain⟨h,hh,hhl,hd⟩:=ghost7 h1 hg e1;refine⟨fun h=>by omega,fun h=>by omega,?_⟩;have q1:=T.tot_setAt f (y':=.mk false [] (h.ts.take (o.pos.toNat+1)++List.replicate o.text.length (-2)++h.ts.drop (o.pos.toNat+1)) h.ks) hh;rw[T.tot,T.tot_eq f h,F.ins h.ts _ _ (like_ne hhl),← hd] at q1;omega
  ·obtain⟨k,k',e1,e2,e3⟩:=done6 hf (.inr (.inr h1)) hs;obtain⟨h,hh,hhl,hd⟩:=ghost8 h1 hg e1;refine⟨fun h=>by omega,fun h=>by omega,?_⟩;have q1:=T.tot_setAt f (y':=.mk false [] (h.ts.take (o.pos.toNat+1)++h.ts.drop (o.pos.toNat+1+o.text.length)) h.ks) hh;have q2:=F.rem h.ts o.pos.toNat o.text.length (like_ne hhl);rw[T.tot,T.tot_eq f h,← hd] at q1;omega
theorem ghost_row_all{n g:T}{s:SelE}{o:OpE}{p:List Int}{y gy:T}(hb:n.bulk≤1048576)(hg:like g n)(happ:(zak n s o).2.2=0)(hp:n.at p=some y)(hgy:g.at p=some gy)(hpo:¬ (p=o.path∧(o.kind=3∨o.kind=4∨o.kind=7∨o.kind=8))) :
  ((zbR p o.path o.dest o.kind o.pos).2=false→True)∧((zbR p o.path o.dest o.kind o.pos).2=true→∃ h',(doG o g).at (zbR p o.path o.dest o.kind o.pos).1=some h'∧∃ r,h'.ts=gy.ts++r):=by
 refine⟨fun _=>trivial,fun hm=>?_⟩;obtain⟨h,h',q1,q2,_,q4⟩:=(ghost_all hb hg happ hp).2 hm;rw[if_neg (fun h=>hpo ⟨h.2,.inl h.1⟩),hgy] at q1;injection q1 with q1
 subst q1;exact⟨h',q2,q4 hpo⟩
theorem aboveP_app{a b:List Int}(h:zaf a b=true):∃ r,b=a++r:=by
 unfold zaf at h;rw[Bool.and_eq_true,decide_eq_true_iff,decide_eq_true_iff] at h;exact⟨b.drop a.length,by have h2:=h.2;have h3:=(List.take_append_drop a.length b).symm;rw[← h2] at h3;exact h3⟩
theorem like_of_at{h:T}:∀ {q:List Int} {g n:T},like g n→g.at q=some h→∃ k,like h k:=by
 intro q
 induction q with
 | nil=>intro g n hl e;injection e with e;subst e;exact⟨n,hl⟩
 | cons i r ih =>
  intro g n hl e;obtain⟨h0,h1,h2⟩:=T.at_of e;have hk:=(like_iff.1 hl).2.2;have hlen:=zbI hk;exact ih (likes_getD i.toNat hk (by omega)) h2
theorem move_merged{n:T}{s:SelE}{o:OpE}(hb:n.bulk≤1048576)(ha:(zak n s o).2.2=0)(hk:o.kind=3):zbR o.path o.path o.dest o.kind o.pos=((zap o.path).1,true)∧(zap o.path).2=0:=by
 obtain⟨hsq,hsd,hspos⟩:=op_small hb ha;obtain⟨hm,h⟩:=zal ha;obtain⟨_,_,_,hf⟩:=may_ok hm
 rcases h with ⟨h9,_⟩ | ⟨_,hs,_,_⟩
 ·omega
 ·obtain⟨up,i,u,x,k,a,b,e1,e2,e3,e4,_⟩:=done3 (by omega) hf hk hs;have h1:=zaw e2;have h2:=u.ks_bulk;rw[e3,List.length_append] at h2;rw[move_is hsq hsq hsd hspos,hk,e1,if_neg (by simp),back_at (by omega)];refine⟨?_,rfl⟩;have hst:zc0 (up++[((i+1:Nat):Int)]) (up++[((i+1:Nat):Int)])=3:=by rw[zc2,if_pos rfl,if_pos rfl]
  unfold moveK;rw[if_neg (by decide),if_neg (by decide),if_pos rfl,hst,if_neg (by rw[zcX,zcW];omega),if_neg (by decide),if_pos (.inl rfl),zcY,Nat.add_sub_cancel,zcU up [] (by omega) (by omega)];rw[show ((i+1:Nat):Int) + -1=(i:Int) by omega]
theorem getD_ins{t:List Int}{p i m:Nat}{v:Int}(hp:p≤t.length)(hi:p≤i):(t.take p++List.replicate m v++t.drop p).getD (i+m) 0=t.getD i 0:=by
 have h1:(t.take p).length=p:=by rw[List.length_take];omega
 simp only[List.getD];rw[List.append_assoc,List.getElem?_append_right (by omega),List.getElem?_append_right (by rw[List.length_replicate];omega),List.getElem?_drop,List.length_replicate,h1];rw[show p+(i+m - p - m)=i by omega]
theorem getD_low{t r:List Int}{p i:Nat}(hp:p≤t.length)(hi:i < p):(t.take p++r).getD i 0=t.getD i 0:=by
 have h1:(t.take p).length=p:=by rw[List.length_take];omega
 simp only[List.getD];rw[List.getElem?_append_left (by omega),List.getElem?_take,if_pos hi]
theorem getD_rem{t:List Int}{p i m:Nat}(hp:p≤t.length)(hi:p+m≤i):(t.take p++t.drop (p+m)).getD (i - m) 0=t.getD i 0:=by
 have h1:(t.take p).length=p:=by rw[List.length_take];omega
 simp only[List.getD];rw[List.getElem?_append_right (by omega),List.getElem?_drop,h1,show p+m+(i - m - p)=i by omega]
def runeAt(aff:Int)(o:Int)(i:Nat):Prop:=(aff=1∧o=i)∨(aff=2∧o=i+1)
theorem point_law{n y gy:T}{s:SelE}{o:OpE}{P:List Int}{off aff:Int}{i:Nat}(hb:n.bulk≤1048576)(ha:(zak n s o).2.2=0)(hp:n.at P=some y)(hlf:y.lf=true)(hgy:(gh n 0).at P=some gy)(hoff:0≤off∧off≤1048576)(hr:runeAt aff off i)(hi:i < gy.ts.tail.length)(hst:0 < (doG o (gh n 0)).tot (fRun (gy.ts.tail.getD i 0))) :
  (zck ⟨P,off⟩ o aff).2=true∧∃(h:T) (i':Nat),(doG o (gh n 0)).at (zck ⟨P,off⟩ o aff).1.p=some h∧runeAt aff (zck ⟨P,off⟩ o aff).1.o i'∧i' < h.ts.tail.length∧h.ts.tail.getD i' 0=gy.ts.tail.getD i 0:=by
 have hg:=gh_like n 0;obtain⟨m1,m2⟩:=ghost_move (g:=gh n 0) (by omega) hg ha hp;obtain⟨hsq,hsd,hspos⟩:=op_small hb ha;have hsp:=at_small hp hb
 obtain⟨gl,gt,hgt⟩:∃ x t,gy.ts=x::t:=by
  obtain⟨ky,hky⟩:=like_of_at hg hgy;obtain⟨x,t,e,_⟩:=like_ts hky;exact⟨x,t,e⟩
 have htl:gy.ts.tail=gt:=by rw[hgt];rfl
 rw[htl] at hi hst ⊢;obtain⟨z,hz⟩:∃ z,gt.getD i 0=z:=⟨_,rfl⟩
 have hzm:z∈gt:=by rw[← hz,List.getD,List.getElem?_eq_getElem hi];exact List.getElem_mem hi
 rw[hz] at hst ⊢;have hz0:0≤z:=gh_nonneg hgy z (by rw[hgt];exact List.mem_cons_of_mem _ hzm);have once:=gh_run_once z n;obtain⟨t2,t3,t1⟩:=doG_tot (fits_run hz0) hb hg ha;have own0:0 < fRun z gy.ts:=by unfold fRun;rw[htl];exact List.count_pos_iff.2 hzm
 have hmv:(zbR P o.path o.dest o.kind o.pos).2=true:=by
  cases hm:(zbR P o.path o.dest o.kind o.pos).2 with
  | true=>rfl
  | false =>
   obtain⟨hk2,hor⟩:=m1 hm;obtain⟨h,hh,ht⟩:=t2 hk2
   have hpr:∃ r,P=o.path++r:=by
    rcases hor with e | e
    ·exact⟨[],by rw[e,List.append_nil]⟩
    ·exact aboveP_app e
   obtain⟨r,hr⟩:=hpr;have hat:=hgy;rw[hr,T.at_up hh] at hat;have h1:=T.tot_at (fRun z) hat;have h2:=T.tot_own (fRun z) gy;omega
 have haff:aff=1∨aff=2:=by rcases hr with h | h <;> omega
 have hE:zck ⟨P,off⟩ o aff=ptGo (zbR P o.path o.dest o.kind o.pos).1 ⟨P,off⟩ o aff:=by
  unfold zck;rw[if_neg];rintro (h | h | h | h | h)
  ·rw[hmv] at h;cases h
  ·omega
  ·omega
  ·have:off < 0:=h;omega
  ·have:1048576 < off:=h;omega
 rw[hE]
 by_cases hpo:P=o.path∧(o.kind=3∨o.kind=4∨o.kind=7∨o.kind=8)
 case neg =>
  obtain⟨h,h1,r,h2⟩:=(ghost_row_all hb hg ha hp hgy hpo).2 hmv
  have hgo:ptGo (zbR P o.path o.dest o.kind o.pos).1 ⟨P,off⟩ o aff=(⟨(zbR P o.path o.dest o.kind o.pos).1,off⟩,true):=by
   unfold ptGo
   by_cases hq:o.path=P
   ·rw[if_neg (fun h=>h hq)];have hk:¬ (o.kind=3∨o.kind=4∨o.kind=7∨o.kind=8):=fun h=>hpo ⟨hq.symm,h⟩;unfold zcj;rw[if_neg (by omega),if_neg (by omega),if_neg (by omega),if_neg (by omega),if_neg (by omega)]
   ·rw[if_pos hq]
  rw[hgo];refine⟨rfl,h,i,h1,hr,?_,?_⟩
  ·rw[h2,hgt,List.cons_append,List.tail_cons,List.length_append];omega
  ·rw[h2,hgt,List.cons_append,List.tail_cons,← hz];simp only[List.getD];rw[List.getElem?_append_left hi]
 case pos =>
 obtain⟨hpe,hk⟩:=hpo;obtain⟨hm,h⟩:=zal ha;obtain⟨hc,_,_,hf⟩:=may_ok hm
 rcases h with ⟨h9,_⟩ | ⟨_,hs,_,_⟩
 ·omega
 have hgo:ptGo (zbR P o.path o.dest o.kind o.pos).1 ⟨P,off⟩ o aff=zcj (zbR P o.path o.dest o.kind o.pos).1 off o.kind o.pos o.text.length aff:=by
  unfold ptGo;rw[if_neg (fun h=>h hpe.symm)]
 rw[hgo]
 rcases hk with hk | hk | hk | hk
 ·-- merged
  obtain⟨e1,_⟩:=move_merged (s:=s) hb ha hk;rw[hpe,e1];obtain⟨up,j,u,x,k,a,b,q1,q2,q3,q4,q5,q6,_⟩:=done3 (by omega) hf hk hs
  have hjb:j < 4611686018427387:=by
   have h1:=zaw q2;have h2:=u.ks_bulk;rw[q3,List.length_append] at h2;omega
  obtain⟨v,hx,hkk,c,d,g1,g2,g3,g4,g5,g6,g7,g8,g9⟩:=ghost3 hk hg q1 q2 q3 q4 hjb
  have hyk:y=k:=by
   have h1:n.at P=some k:=by
    rw[hpe,q1];exact T.at_the_kid q2 (show u.ks=(a++[x])++k::b by rw[q3,List.append_assoc];rfl) (by rw[List.length_append,q4];rfl)
   rw[hp] at h1;injection h1
  have hgk:gy=hkk:=by
   have h1:(gh n 0).at P=some hkk:=by
    rw[hpe,q1];exact T.at_the_kid g1 (show v.ks=(c++[hx])++hkk::d by rw[g3,List.append_assoc];rfl) (by rw[List.length_append,g4];rfl)
   rw[hgy] at h1;injection h1
  have hbk:(zap o.path).1=up++[(j:Int)]:=by rw[q1,back_at (by omega)]
  have hpos:o.pos=(x.ts.length:Int):=by
   rw[← q6];unfold T.len;rw[if_pos (by rw[q5,← hyk];exact hlf)]
  have hxl:=(like_iff.1 g6).2.1;obtain⟨xl,xt,hxt⟩:=List.exists_cons_of_ne_nil (like_ne g6);have hxtl:xt.length=x.ts.length:=by rw[hxt,List.length_cons] at hxl;omega
  have hres:zcj (zap o.path).1 off o.kind o.pos o.text.length aff=(⟨up++[(j:Int)],off+o.pos⟩,true):=by
   unfold zcj;rw[if_neg (by omega),if_neg (by omega),hbk,if_pos ⟨hk,by simp⟩]
  rw[hres];refine⟨rfl,hx.gjoin hkk,i+xt.length,?_,?_,?_,?_⟩
  ·rw[g9,T.at_on g1];have:=T.at_kid (u:=v.kids (c++hx.gjoin hkk::d)) (k:=hx.gjoin hkk) (a:=c) (b:=d) rfl;rw[g4] at this;exact this
  ·rcases hr with ⟨r1,r2⟩ | ⟨r1,r2⟩
   ·exact .inl ⟨r1,by show off+o.pos=_;omega⟩
   ·exact .inr ⟨r1,by show off+o.pos=_;omega⟩
  ·show _ < (hx.ts++hkk.ts.tail).tail.length
   rw[hxt,List.cons_append,List.tail_cons,List.length_append,← hgk,htl];omega
  ·show (hx.ts++hkk.ts.tail).tail.getD _ 0=z
   rw[hxt,List.cons_append,List.tail_cons,← hgk,htl,← hz];simp only[List.getD];rw[List.getElem?_append_right (by omega),Nat.add_sub_cancel]
 ·-- split
  obtain⟨up,j,u,k,a,b,q1,q2,_,q3,q4,p0,p1,_,_⟩:=done4 hf hk hs
  have hjb:j < 4611686018427387:=by
   have h1:=zaw q2;have h2:=u.ks_bulk;rw[q3,List.length_append] at h2;omega
  obtain⟨v,hkk,c,d,g1,g2,g3,g4,g5,g6,g7,g9⟩:=ghost4 hk hg q1 q2 q3 q4 hjb
  have hyk:y=k:=by
   have h1:n.at P=some k:=by rw[hpe,q1];exact T.at_the_kid q2 q3 q4
   rw[hp] at h1;injection h1
  have hgk:gy=hkk:=by
   have h1:(gh n 0).at P=some hkk:=by rw[hpe,q1];exact T.at_the_kid g1 g3 g4
   rw[hgy] at h1;injection h1
  have hkl:k.lf=true:=by rw[← hyk];exact hlf
  have hkn:k.ks=[]:=T.chk_leaf (T.chk_ks (T.chk_at hc q2) k (by rw[q3];simp)) hkl;have hgn:hkk.ks=[]:=List.eq_nil_of_length_eq_zero (by rw[zbI (like_iff.1 g6).2.2,hkn];rfl);have hlen:=(like_iff.1 g6).2.1;have hkk':hkk.ts=gl::gt:=by rw[← hgk];exact hgt
  have hpk:o.pos≤gt.length:=by
   unfold T.len at p1;rw[if_pos hkl] at p1;rw[hkk',List.length_cons] at hlen;omega
  have hcond:o.pos.toNat≤hkk.ts.length - 1∧hkk.ks=[]:=⟨by rw[hkk',List.length_cons];omega,hgn⟩
  have hmp:(zbR P o.path o.dest o.kind o.pos).1=P:=by
   rw[move_is hsp hsq hsd hspos,hpe,q1,if_neg (by simp)];unfold moveK;rw[if_neg (by omega),if_neg (by omega),if_neg (by omega),if_pos hk,zc2,if_pos rfl,if_pos rfl,if_neg (fun h=>absurd h.1 (by decide)),if_neg (by decide)]
  rw[hmp];have hP0:¬ P.length=0:=by rw[hpe,q1];simp
  have hnx:zbT P=(up++[((j+1:Nat):Int)],0):=by rw[hpe,q1,next_at (by omega)]
  have kidsE:∀ q:List Int,(doG o (gh n 0)).at (up++q)=(v.kids (c++hkk.gfirst o.pos.toNat::hkk.gsecond o.pos.toNat::d)).at q:=fun q=>by rw[g9,T.at_on g1]
  by_cases hpush:o.pos < off∨(o.pos=off∧aff=1)
  ·have hres:zcj P off o.kind o.pos o.text.length aff=(⟨up++[((j+1:Nat):Int)],off - o.pos⟩,true):=by
    unfold zcj;rw[if_neg (by omega),if_neg (by omega),if_neg (by omega),if_neg (by omega),if_pos ⟨hk,hP0,hpush⟩,hnx,if_pos rfl]
   rw[hres];have hpi:o.pos≤i:=by rcases hr with ⟨r1,r2⟩ | ⟨r1,r2⟩ <;> omega
   have hsec:(hkk.gsecond o.pos.toNat).ts.tail=gt.drop o.pos.toNat:=by
    unfold T.gsecond;rw[if_pos hcond,T.ts_mk,hkk',List.tail_cons,List.drop_succ_cons]
   refine⟨rfl,hkk.gsecond o.pos.toNat,i - o.pos.toNat,?_,?_,?_,?_⟩
   ·rw[kidsE];have:=T.at_kid (u:=v.kids (c++hkk.gfirst o.pos.toNat::hkk.gsecond o.pos.toNat::d)) (k:=hkk.gsecond o.pos.toNat) (a:=c++[hkk.gfirst o.pos.toNat]) (b:=d) (by rw[T.kids_ks,List.append_assoc];rfl);rw[List.length_append,g4] at this;exact this
   ·rcases hr with ⟨r1,r2⟩ | ⟨r1,r2⟩
    ·exact .inl ⟨r1,by show off - o.pos=_;omega⟩
    ·exact .inr ⟨r1,by show off - o.pos=_;omega⟩
   ·rw[hsec,List.length_drop];omega
   ·rw[hsec,← hz];simp only[List.getD];rw[List.getElem?_drop,show o.pos.toNat+(i - o.pos.toNat)=i by omega]
  ·have hres:zcj P off o.kind o.pos o.text.length aff=(⟨P,off⟩,true):=by
    unfold zcj;rw[if_neg (by omega),if_neg (by omega),if_neg (by omega),if_neg (by omega),if_neg (fun h=>hpush h.2.2)]
   rw[hres];have hpi:(i:Int) < o.pos:=by rcases hr with ⟨r1,r2⟩ | ⟨r1,r2⟩ <;> omega
   have hfst:(hkk.gfirst o.pos.toNat).ts.tail=gt.take o.pos.toNat:=by
    unfold T.gfirst;rw[if_pos hcond,T.ts_mk,hkk',List.take_succ_cons,List.tail_cons]
   refine⟨rfl,hkk.gfirst o.pos.toNat,i,?_,hr,?_,?_⟩
   ·show (doG o (gh n 0)).at P=_
    rw[hpe,q1,kidsE];have:=T.at_kid (u:=v.kids (c++hkk.gfirst o.pos.toNat::hkk.gsecond o.pos.toNat::d)) (k:=hkk.gfirst o.pos.toNat) (a:=c) (b:=hkk.gsecond o.pos.toNat::d) rfl;rw[g4] at this;exact this
   ·rw[hfst,List.length_take];omega
   ·rw[hfst,← hz];simp only[List.getD];rw[List.getElem?_take,if_pos (by omega)]
 ·-- text put in
  obtain⟨k,k',q1,q2,q3⟩:=done6 hf (.inr (.inl hk)) hs;obtain⟨h,hh,hhl,hd⟩:=ghost7 hk hg q1;have hyk:y=k:=by rw[hpe,q1] at hp;injection hp with hp;exact hp.symm
  have hgk:gy=h:=by rw[hpe,hh] at hgy;injection hgy with hgy;exact hgy.symm
  have hins:0≤o.pos∧o.pos≤gt.length:=by
   rcases q3 with ⟨h,_⟩ | ⟨_,_,hi',_⟩ | ⟨h,_⟩
   ·omega
   ·obtain⟨h0,h1,_⟩:=zbx hi';have hl:=(like_iff.1 hhl).2.1;rw[← hgk,hgt,List.length_cons] at hl;omega
   ·omega
  have hmp:(zbR P o.path o.dest o.kind o.pos).1=P:=by
   rw[move_is hsp hsq hsd hspos]
   split
   ·rfl
   ·unfold moveK;rw[if_neg (by omega),if_neg (by omega),if_neg (by omega),if_neg (by omega),if_neg (by omega)]
  rw[hmp];have hat:(doG o (gh n 0)).at P=some (.mk false [] (h.ts.take (o.pos.toNat+1)++List.replicate o.text.length (-2)++h.ts.drop (o.pos.toNat+1)) h.ks):=by rw[hd,hpe,T.at_setAt hh]
  have hrow:(T.mk false [] (h.ts.take (o.pos.toNat+1)++List.replicate o.text.length (-2)++h.ts.drop (o.pos.toNat+1)) h.ks).ts.tail=gt.take o.pos.toNat++List.replicate o.text.length (-2)++gt.drop o.pos.toNat:=by
   rw[T.ts_mk,← hgk,hgt,List.take_succ_cons,List.drop_succ_cons];rfl
  by_cases hpush:o.pos < off∨(o.pos=off∧aff=1)
  ·have hres:zcj P off o.kind o.pos o.text.length aff=(⟨P,off+o.text.length⟩,true):=by
    unfold zcj;rw[if_pos ⟨hk,hpush⟩]
   rw[hres];have hpi:o.pos≤i:=by rcases hr with ⟨r1,r2⟩ | ⟨r1,r2⟩ <;> omega
   refine⟨rfl,_,i+o.text.length,hat,?_,?_,?_⟩
   ·rcases hr with ⟨r1,r2⟩ | ⟨r1,r2⟩
    ·exact .inl ⟨r1,by show off+_=_;omega⟩
    ·exact .inr ⟨r1,by show off+_=_;omega⟩
   ·rw[hrow];simp only[List.length_append,List.length_take,List.length_replicate,List.length_drop];omega
   ·rw[hrow,getD_ins (by omega) (by omega)];exact hz
  ·have hres:zcj P off o.kind o.pos o.text.length aff=(⟨P,off⟩,true):=by
    unfold zcj;rw[if_neg (fun h=>hpush h.2),if_neg (by omega),if_neg (by omega),if_neg (by omega),if_neg (by omega)]
   rw[hres];have hpi:(i:Int) < o.pos:=by rcases hr with ⟨r1,r2⟩ | ⟨r1,r2⟩ <;> omega
   refine⟨rfl,_,i,hat,hr,?_,?_⟩
   ·rw[hrow];simp only[List.length_append,List.length_take,List.length_replicate,List.length_drop];omega
   ·rw[hrow,List.append_assoc,getD_low (by omega) (by omega)];exact hz
 ·-- text taken out
  obtain⟨k,k',q1,q2,q3⟩:=done6 hf (.inr (.inr hk)) hs;obtain⟨h,hh,hhl,hd⟩:=ghost8 hk hg q1;have hgk:gy=h:=by rw[hpe,hh] at hgy;injection hgy with hgy;exact hgy.symm
  have hrem:0≤o.pos∧o.pos.toNat+o.text.length≤gt.length:=by
   rcases q3 with ⟨h,_⟩ | ⟨h,_⟩ | ⟨_,_,hi',_⟩
   ·omega
   ·omega
   ·obtain⟨h0,h1,_⟩:=zcu hi';have hl:=(like_iff.1 hhl).2.1;rw[← hgk,hgt,List.length_cons] at hl;omega
  have hmp:(zbR P o.path o.dest o.kind o.pos).1=P:=by
   rw[move_is hsp hsq hsd hspos]
   split
   ·rfl
   ·unfold moveK;rw[if_neg (by omega),if_neg (by omega),if_neg (by omega),if_neg (by omega),if_neg (by omega)]
  rw[hmp];have hat:(doG o (gh n 0)).at P=some (.mk false [] (h.ts.take (o.pos.toNat+1)++h.ts.drop (o.pos.toNat+1+o.text.length)) h.ks):=by rw[hd,hpe,T.at_setAt hh]
  have hrow:(T.mk false [] (h.ts.take (o.pos.toNat+1)++h.ts.drop (o.pos.toNat+1+o.text.length)) h.ks).ts.tail=gt.take o.pos.toNat++gt.drop (o.pos.toNat+o.text.length):=by
   rw[T.ts_mk,← hgk,hgt,List.take_succ_cons,show o.pos.toNat+1+o.text.length=(o.pos.toNat+o.text.length)+1 by omega,List.drop_succ_cons];rfl
  have hout:(i:Int) < o.pos∨o.pos.toNat+o.text.length≤i:=by
   apply Classical.byContradiction
   intro hno;have hno1:¬ ((i:Int) < o.pos):=fun h=>hno (.inl h);have hno2:¬ (o.pos.toNat+o.text.length≤i):=fun h=>hno (.inr h);have q1':=T.tot_setAt (fRun z) (y':=.mk false [] (h.ts.take (o.pos.toNat+1)++h.ts.drop (o.pos.toNat+1+o.text.length)) h.ks) hh;rw[← hd,T.tot,T.tot_eq (fRun z) h] at q1'
   have hnew:fRun z (h.ts.take (o.pos.toNat+1)++h.ts.drop (o.pos.toNat+1+o.text.length))=(gt.take o.pos.toNat).count z+(gt.drop (o.pos.toNat+o.text.length)).count z:=by
    show List.count z (T.mk false [] (h.ts.take (o.pos.toNat+1)++h.ts.drop (o.pos.toNat+1+o.text.length)) h.ks).ts.tail=_
    rw[hrow,List.count_append]
   have hold:fRun z h.ts=gt.count z:=by unfold fRun;rw[← hgk,htl]
   have hsum:gt.count z=(gt.take o.pos.toNat).count z+(((gt.drop o.pos.toNat).take o.text.length).count z+(gt.drop (o.pos.toNat+o.text.length)).count z):=by
    have e1:gt=gt.take o.pos.toNat++((gt.drop o.pos.toNat).take o.text.length++gt.drop (o.pos.toNat+o.text.length)):=by
     rw[← List.drop_drop,List.take_append_drop,List.take_append_drop]
    rw[← List.count_append,← List.count_append,← e1]
   have hmid:0 < ((gt.drop o.pos.toNat).take o.text.length).count z:=by
    refine List.count_pos_iff.2 ?_
    have hidx:i - o.pos.toNat < ((gt.drop o.pos.toNat).take o.text.length).length:=by
     rw[List.length_take,List.length_drop];omega
    have:((gt.drop o.pos.toNat).take o.text.length)[i - o.pos.toNat]'hidx=z:=by
     rw[List.getElem_take,List.getElem_drop];rw[← hz,List.getD,List.getElem?_eq_getElem hi,Option.getD_some]
     congr 1
     omega
    rw[← this];exact List.getElem_mem hidx
   have hgo1:=T.tot_at (fRun z) hh;rw[T.tot_eq (fRun z) h] at hgo1;omega
  by_cases hpush:o.pos < off
  ·have hres:zcj P off o.kind o.pos o.text.length aff=(⟨P,off - min (o.text.length:Int) (off - o.pos)⟩,true):=by
    unfold zcj;rw[if_neg (by omega),if_pos ⟨hk,hpush⟩]
   rw[hres]
   rcases hout with hlow | hhigh
   ·have:False:=by rcases hr with ⟨r1,r2⟩ | ⟨r1,r2⟩ <;> omega
    exact this.elim
   ·have hmin:min (o.text.length:Int) (off - o.pos)=o.text.length:=by
     rcases hr with ⟨r1,r2⟩ | ⟨r1,r2⟩ <;> omega
    rw[hmin];refine⟨rfl,_,i - o.text.length,hat,?_,?_,?_⟩
    ·rcases hr with ⟨r1,r2⟩ | ⟨r1,r2⟩
     ·exact .inl ⟨r1,by show off - _=_;omega⟩
     ·exact .inr ⟨r1,by show off - _=_;omega⟩
    ·rw[hrow];simp only[List.length_append,List.length_take,List.length_drop];omega
    ·rw[hrow,getD_rem (by omega) hhigh];exact hz
  ·have hres:zcj P off o.kind o.pos o.text.length aff=(⟨P,off⟩,true):=by
    unfold zcj;rw[if_neg (by omega),if_neg (fun h=>hpush h.2),if_neg (by omega),if_neg (by omega),if_neg (by omega)]
   rw[hres];refine⟨rfl,?_⟩
   by_cases hlow:(i:Int) < o.pos
   ·refine⟨_,i,hat,hr,?_,?_⟩
    ·rw[hrow];simp only[List.length_append,List.length_take,List.length_drop];omega
    ·rw[hrow,getD_low (by omega) (by omega)];exact hz
   ·have h0:o.text.length=0:=by
     rcases hr with ⟨r1,r2⟩ | ⟨r1,r2⟩ <;> omega
    refine⟨_,i,hat,hr,?_,?_⟩
    ·rw[hrow];simp only[List.length_append,List.length_take,List.length_drop];omega
    ·rw[hrow,h0,Nat.add_zero,List.take_append_drop];exact hz
end Go.Proofs.YtbhbekocmpmjfaaGreatDoor
