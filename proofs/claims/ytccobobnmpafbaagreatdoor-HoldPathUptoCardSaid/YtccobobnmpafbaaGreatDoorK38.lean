/- WHERE LABELS STAND behind an operation: plain. -/
import Derived.Test.YtccobobnmpafbaaGreatDoorK37
import Derived.Test.YtccobobnmpafbaaGreatDoorK35
set_option maxRecDepth 100000
set_option maxHeartbeats 100000000
namespace Go.Proofs.YtccobobnmpafbaaGreatDoor
open Go Go.RowKit
theorem at_small{y:T}:∀ {p:List Int} {t:T},t.at p=some y->t.bulk<=1048576->∀ j∈p,0<=j/\j<=1048576:=by
 intro p
 induction p with
 | nil=>intro t _ _ j hj;cases hj
 | cons i r ih =>
  intro t h hb j hj;obtain⟨h0,h1,h2⟩:=T.at_of h;have hn:=t.ks_bulk
  rcases List.mem_cons.1 hj with rfl | hj
  ·omega
  ·refine ih h2 ?_ j hj;have:=zav (t:=t) (p:=[i]) (x:=t.ks.getD i.toNat default) (by rw[T.at_go h0 h1];rfl);omega
theorem snoc_small{up:List Int}{i:Nat}(h:∀ j∈up,0<=j/\j<=1048576)(hi:i<=1048576):∀ j∈up++[(i:Int)],0<=j/\j<=1048576:=by
 intro j hj
 rcases List.mem_append.1 hj with hj | hj
 ·exact h j hj
 ·rw[List.mem_singleton.1 hj];omega
theorem T.len_bulk(k:T):k.len < k.bulk:=by
 unfold T.len;have h:=k.ks_bulk;rw[T.bulk_eq] at h ⊢
 split <;> omega
theorem op_small{n:T}{s:SelE}{o:OpE}(hb:n.bulk<=1048576)(h:(zak n s o).2.2=0):(∀ j∈o.path,0<=j/\j<=1048576)/\(∀ j∈o.dest,0<=j/\j<=1048576)/\0<=o.pos/\o.pos<=1048576:=by
 obtain⟨hm,h⟩:=zal h;obtain⟨hc,_,_,hf⟩:=may_ok hm;have hfm:=form_iff.1 hf;have hd:o.kind≠5->∀ j∈o.dest,0<=j/\j<=1048576:=fun h5 j hj=>by rw[form_dest hf h5] at hj;cases hj
 have hp0:(o.kind≠3/\o.kind≠4/\o.kind≠7/\o.kind≠8)->o.pos=0:=fun hk=>Classical.byContradiction fun hne=>by
  have:=hfm.2.2.2.1 hne;rw[inF_iff] at this;omega
 rcases h with ⟨h9,_,_,_⟩ | ⟨h9,hs,_,_⟩
 ·refine⟨fun j hj=>?_,hd (by omega),by rw[hp0 (by omega)];decide,by rw[hp0 (by omega)];decide⟩;rw[form_path9 hf h9] at hj;cases hj
 ·have hkk:=zbf hf
  have row:∀ {up:List Int} {i:Nat} {u:T},n.at up=some u->i<=u.ks.length->∀ j∈up++[(i:Int)],0<=j/\j<=1048576:=by
   intro up i u hu hi;refine snoc_small (at_small hu hb) ?_;have h1:=zav hu;have h2:=u.ks_bulk;omega
  rcases (show o.kind=1\/o.kind=2\/o.kind=3\/o.kind=4\/o.kind=5\/(o.kind=6\/o.kind=7\/o.kind=8) by omega) with h1 | h1 | h1 | h1 | h1 | h1
  ·obtain⟨up,i,u,a,b,e1,e2,_,e3,e4,_,_⟩:=done1 hf h1 hs;refine⟨?_,hd (by omega),by rw[hp0 (by omega)];decide,by rw[hp0 (by omega)];decide⟩;rw[e1];exact row e2 (by rw[e3,List.length_append];omega)
  ·obtain⟨up,i,u,a,b,e1,e2,e3,e4,_⟩:=done2 hf h1 hs;refine⟨?_,hd (by omega),by rw[hp0 (by omega)];decide,by rw[hp0 (by omega)];decide⟩;rw[e1];exact row e2 (by rw[e3,List.length_append];omega)
  ·obtain⟨up,i,u,x,k,a,b,e1,e2,e3,e4,_,e6,_,_⟩:=done3 (by omega) hf h1 hs;have hx:n.at (up++[(i:Int)])=some x:=by rw[T.at_up e2,<- e4];exact T.at_kid e3
   have h1:=zav hx;have h2:=x.len_bulk;refine⟨?_,hd (by omega),by omega,by omega⟩;rw[e1];exact row e2 (by rw[e3,List.length_append,List.length_cons,List.length_cons];omega)
  ·obtain⟨up,i,u,k,a,b,e1,e2,_,e3,e4,g0,g1,_,_⟩:=done4 hf h1 hs;have hx:n.at (up++[(i:Int)])=some k:=by rw[T.at_up e2,<- e4];exact T.at_kid e3
   have h1:=zav hx;have h2:=k.len_bulk;refine⟨?_,hd (by omega),by omega,by omega⟩;rw[e1];exact row e2 (by rw[e3,List.length_append];omega)
  ·obtain⟨up,vp,i,j,u,v,k,r,a,b,c,d,e1,e2,e3,e4,er,f1,f2,_,f4,f5,_⟩:=done5 hf h1 hs
   have hrb:r.bulk<=1048576:=by
    have h2:=T.bulk_atSet (y':=u.kids (a++b)) e2
    have h3:(u.kids (a++b)).bulk<=u.bulk:=by
     unfold T.kids;rw[T.bulk,T.bulk_eq u,e3,T.bulkAll_append,T.bulkAll_append,T.bulkAll];omega
    rw[er];omega
   refine⟨?_,?_,by rw[hp0 (by omega)];decide,by rw[hp0 (by omega)];decide⟩
   ·rw[e1];exact row e2 (by rw[e3,List.length_append];omega)
   ·rw[f1];refine snoc_small (at_small f2 hrb) ?_;have h1:=zav f2;have h2:=v.ks_bulk;rw[f4,List.length_append] at h2;omega
  ·obtain⟨k,k',e1,_,e3⟩:=done6 hf h1 hs;have h2:=zav e1;have h3:k.ts.length < k.bulk:=by rw[T.bulk_eq];omega
   refine⟨at_small e1 hb,hd (by omega),?_,?_⟩
   ·rcases e3 with ⟨h6,_⟩ | ⟨_,_,hi,_⟩ | ⟨_,_,hi,_⟩
    ·rw[hp0 (by omega)];decide
    ·exact (insert_ok hi).1
    ·exact (zcw hi).1
   ·rcases e3 with ⟨h6,_⟩ | ⟨_,_,hi,_⟩ | ⟨_,_,hi,_⟩
    ·rw[hp0 (by omega)];decide
    ·have:=(insert_ok hi).2.1;omega
    ·have:=(zcw hi).2.1;have:=(zcw hi).1;omega
theorem move_is{p q d:List Int}{kind pos:Int}(h1:∀ j∈p,0<=j/\j<=1048576)(h2:∀ j∈q,0<=j/\j<=1048576)(h3:∀ j∈d,0<=j/\j<=1048576)(h4:0<=pos/\pos<=1048576):zbT p q d kind pos=if q.length=0 then (p,true) else moveK p q d kind pos (zc2 q p):=by
 unfold zbT;rw[if_pos ⟨smallL_iff.2 h1,smallL_iff.2 h2,smallL_iff.2 h3,smallL_iff.2 (fun j hj=>by rw[List.mem_singleton.1 hj];exact h4)⟩]
def lab(t:T):Int:=t.ts.headD 0
theorem lab_data{a b:T}(h:a.data=b.data):lab a=lab b:=by unfold lab;rw[T.data_ts h]
theorem lab_join{x k n:T}(h:like x n):lab (x.gjoin k)=lab x:=by
 obtain⟨l,r,e,_⟩:=like_ts h;unfold lab T.gjoin;rw[T.ts_mk,e];rfl
theorem lab_first{x n:T}{i:Nat}(h:like x n):lab (x.gfirst i)=lab x:=by
 obtain⟨l,r,e,_⟩:=like_ts h;unfold lab T.gfirst
 split
 ·rw[T.ts_mk,e];rfl
 ·rw[T.ts_mk]
theorem like_elem{g k:T}(hc:k.chk=0)(h:like g k)(hne:k.ks≠[]):k.lf=false/\g.ts.length=1/\g.ks.length=k.ks.length/\k.len=k.ks.length:=by
 have hl:k.lf=false:=by
  cases hl:k.lf with
  | false=>rfl
  | true=>exact absurd (T.chk_leaf hc hl) hne
 have h1:=like_iff.1 h;rw[T.chk_elem hc hl] at h1;exact⟨hl,h1.2.1,zbK h1.2.2,by unfold T.len;rw[if_neg (by rw[hl];decide)]⟩
/-- WHERE A LABEL STANDS behind an operation -/
theorem za4 (h:T):∃ r,h.ts=h.ts++r:=⟨[],(List.append_nil _).symm⟩
theorem ext_data{a b:T}(h:a.data=b.data):∃ r,a.ts=b.ts++r:=⟨[],by rw[List.append_nil];exact T.data_ts h⟩
theorem ghost_all{n g:T}{s:SelE}{o:OpE}{p:List Int}{y:T}(hb:n.bulk<=1048576)(hg:like g n)(happ:(zak n s o).2.2=0)(hp:n.at p=some y) :
  ((zbT p o.path o.dest o.kind o.pos).2=false->o.kind=2/\(p=o.path\/zaf o.path p=true)) /\
  ((zbT p o.path o.dest o.kind o.pos).2=true->∃ h h',g.at (if o.kind=3/\p=o.path then (zap o.path).1 else p)=some h/\(doG o g).at (zbT p o.path o.dest o.kind o.pos).1=some h'/\lab h'=lab h/\(¬ (p=o.path/\(o.kind=3\/o.kind=4\/o.kind=7\/o.kind=8))->∃ r,h'.ts=h.ts++r)):=by
 have hsp:=at_small hp hb;obtain⟨hsq,hsd,hspos⟩:=op_small hb happ;have hsp':∀ j∈p,j<=1048576:=fun j hj=>(hsp j hj).2;rw[move_is hsp hsq hsd hspos];obtain⟨gy,hgy,hgyl⟩:=like_at hg hp;obtain⟨hm,h⟩:=zal happ;obtain⟨hc,hl,_,hf⟩:=may_ok hm
 have keep:∀ {q:List Int} {h':T},¬ o.kind=3->(doG o g).at q=some h'->lab h'=lab gy/\(¬ (p=o.path/\(o.kind=3\/o.kind=4\/o.kind=7\/o.kind=8))->∃ r,h'.ts=gy.ts++r)->∃ h h',g.at (if o.kind=3/\p=o.path then (zap o.path).1 else p)=some h/\(doG o g).at q=some h'/\lab h'=lab h/\(¬ (p=o.path/\(o.kind=3\/o.kind=4\/o.kind=7\/o.kind=8))->∃ r,h'.ts=h.ts++r):=fun hk h1 h2=>by
  rw[if_neg (fun h=>hk h.1)];exact⟨gy,_,hgy,h1,h2⟩
 rcases h with ⟨h9,_,_,_⟩ | ⟨h9,hs,_,_⟩
 ·have:o.path.length=0:=by rw[form_path9 hf h9];rfl
  rw[if_pos this];exact⟨fun h=>(by cases h),fun _=>keep (by omega) (by rw[doG_own (.inr h9)];exact hgy) ⟨rfl,fun _=>za4 gy⟩⟩
 ·have hkk:=zbf hf
  rcases (show o.kind=1\/o.kind=2\/o.kind=3\/o.kind=4\/o.kind=5\/(o.kind=6\/o.kind=7\/o.kind=8) by omega) with h1 | h1 | h1 | h1 | h1 | h1
  ·obtain⟨up,i,u,a,b,e1,e2,_,e3,e4,_,_⟩:=done1 hf h1 hs;obtain⟨v,c,d,g1,g2,g3,g4,g5,g6,g7⟩:=ghost1 h1 hg e1 e2 e3 e4;obtain⟨y',q1,q2,_⟩:=T.pos_ins (m:=fgt (gh o.node 0)) g1 g3 g4 hgy hsp';rw[e1,if_neg (by simp)];unfold moveK;rw[if_pos h1];refine⟨fun h=>(by cases h),fun _=>?_⟩;rw[<- e1];refine keep (by omega) ?_ ⟨lab_data q2,fun _=>ext_data q2⟩;rw[g7,e1];exact q1
  ·obtain⟨up,i,u,a,b,e1,e2,e3,e4,_⟩:=done2 hf h1 hs;obtain⟨v,h,c,d,g1,g2,g3,g4,g5,g6,g7,g8⟩:=ghostcut hg e2 e3 e4
   have hd:doG o g=T.setAt (v.kids (c++d)) g up:=by
    unfold doG;rw[if_neg (by omega),if_pos h1,e1,g8]
   rw[e1,if_neg (by simp)];unfold moveK;rw[if_neg (by omega),if_pos h1,zc0,Nat.add_sub_cancel]
   by_cases h32:zc2 (up++[(i:Int)]) p=3\/zc2 (up++[(i:Int)]) p=2
   ·rw[if_pos h32];refine⟨fun _=>⟨h1,?_⟩,fun h=>by cases h⟩;obtain⟨r,hr,h3⟩:=stands_in h32
    by_cases hr0:r=[]
    ·subst hr0;exact .inl hr
    ·right
     rw[hr];unfold zaf;have hl:0 < r.length:=List.length_pos_iff.2 hr0;have k1:(up++[(i:Int)]).length < (up++(i:Int)::r).length:=by simp;omega
     have k2:up++[(i:Int)]=(up++(i:Int)::r).take (up++[(i:Int)]).length:=by
      rw[show up++(i:Int)::r=(up++[(i:Int)])++r by simp,List.take_left' rfl]
     simp only[decide_eq_true k1,decide_eq_true k2,Bool.and_self]
   ·rw[if_neg h32];obtain⟨y',q1,q2,_⟩:=T.pos_cut g1 g3 g4 hgy hsp' (fun e=>h32 (.inl e)) (fun e=>h32 (.inr e));rw[<- hd] at q1;rw[<- e1];rw[<- e1] at q1
    by_cases hs1:zc2 o.path p=1
    ·rw[if_pos hs1] at q1 ⊢;exact⟨fun h=>(by cases h),fun _=>keep (by omega) q1 ⟨lab_data q2,fun _=>ext_data q2⟩⟩
    ·rw[if_neg hs1] at q1 ⊢;exact⟨fun h=>(by cases h),fun _=>keep (by omega) q1 ⟨lab_data q2,fun _=>ext_data q2⟩⟩
  ·obtain⟨up,i,u,x,k,a,b,e1,e2,e3,e4,e5,e6,_,_⟩:=done3 (by omega) hf h1 hs;have hu:=T.chk_at hc e2;have hkc:=T.chk_ks hu k (by rw[e3];simp);have hxc:=T.chk_ks hu x (by rw[e3];simp)
   have hib:i < 4611686018427387:=by
    have h1:=zav e2;have h2:=u.ks_bulk;rw[e3,List.length_append] at h2;omega
   obtain⟨v,hx,hk,c,d,g1,g2,g3,g4,g5,g6,g7,g8,g9⟩:=ghost3 h1 hg e1 e2 e3 e4 hib;rw[e1,if_neg (by simp)];unfold moveK;rw[if_neg (by omega),if_neg (by omega),if_pos h1,zc0,Nat.add_sub_cancel,zcY,if_neg (by omega),back_at (by omega)]
   rcases below_or up p with ⟨j,r,rfl⟩ | hn
   ·have hj1:=hsp j (by simp);rw[zc4];rw[T.at_up g1] at hgy;obtain⟨w0,w1,w2⟩:=T.at_of hgy;rw[g3] at w1 w2;rw[List.length_append,List.length_cons,List.length_cons] at w1;have hnew:∀ q:List Int,(doG o g).at (up++q)=(v.kids (c++hx.gjoin hk::d)).at q:=fun q=>by rw[g9,T.at_on g1]
    have hkids:(v.kids (c++hx.gjoin hk::d)).ks=c++hx.gjoin hk::d:=rfl
    by_cases hj:j=((i+1:Nat):Int)
    ·subst hj;have hidx:(((i+1:Nat):Int)).toNat=c.length+1:=by omega
     have hget:(c++hx::hk::d).getD (((i+1:Nat):Int)).toNat default=hk:=by
      rw[hidx,zbh (by omega),show c.length+1 - c.length=1 by omega];rfl
     rw[hget] at w2;rw[if_pos rfl]
     by_cases hr:r=[]
     ·subst hr;rw[if_pos rfl,if_neg (by decide),if_pos (.inl rfl),zcW up [] (by omega) (by omega)];refine⟨fun h=>(by cases h),fun _=>?_⟩;rw[if_pos ⟨h1,rfl⟩];have hgx:g.at (up++[(i:Int)])=some hx:=T.at_the_kid g1 g3 g4;refine⟨hx,hx.gjoin hk,hgx,?_,lab_join g6,fun hn=>absurd ⟨rfl,.inl h1⟩ hn⟩;have hii:((i+1:Nat):Int) + -1=(i:Int):=by omega
      rw[hii,hnew];have:=T.at_kid (u:=v.kids (c++hx.gjoin hk::d)) (k:=hx.gjoin hk) (a:=c) (b:=d) rfl;rw[g4] at this;exact this
     ·rw[if_neg hr,if_pos rfl]
      cases r with
      | nil=>exact absurd rfl hr
      | cons l r =>
       obtain⟨z0,z1,z2⟩:=T.at_of w2
       have hkne:k.ks≠[]:=fun e=>by
        have:=zbK (like_iff.1 g7).2.2;rw[e] at this;rw[this] at z1
        simp at z1
        omega
       have hkl:=(like_elem hkc g7 hkne).1;have hxl:x.lf=false:=e5.trans hkl
       have hpos:o.pos=(hx.ks.length:Int):=by
        rw[<- e6];unfold T.len;rw[if_neg (by rw[hxl];decide),zbK (like_iff.1 g6).2.2]
       have hl1:=hsp l (by simp)
       have s1:zcV (up++((i+1:Nat):Int)::l::r) (up.length+1) o.pos=up++((i+1:Nat):Int)::(l+o.pos)::r:=by
        have:=zcW (up++[((i+1:Nat):Int)]) (j:=l) (d:=o.pos) r (by omega) (by omega);rw[zc0,List.append_assoc,List.append_assoc] at this;exact this
       rw[s1,zcW up ((l+o.pos)::r) (by omega) (by omega)];refine⟨fun h=>(by cases h),fun _=>?_⟩
       rw[if_neg (fun h=>by
        have:=List.append_cancel_left h.2
        injection this with _ h;cases h)]
       refine⟨gy,gy,by rw[T.at_up g1];exact hgy,?_,rfl,fun _=>za4 gy⟩;have hii:((i+1:Nat):Int) + -1=(i:Int):=by omega
       rw[hii,hnew,T.at_go (by omega) (by rw[hkids,List.length_append,List.length_cons];omega),hkids,show (i:Int).toNat=c.length by omega,zbh zQ1,Nat.sub_self,List.getD_cons_zero];have hjk:(hx.gjoin hk).ks=hx.ks++hk.ks:=rfl;rw[T.at_go (by omega) (by rw[hjk,List.length_append];omega),hjk,zbh (by omega),show (l+o.pos).toNat - hx.ks.length=l.toNat by omega];exact z2
    ·rw[if_neg hj]
     have hne:¬ (o.kind=3/\up++j::r=up++[((i+1:Nat):Int)]):=fun h=>by
      have:=List.append_cancel_left h.2;injection this with e _
      exact hj e
     by_cases hlt:((i+1:Nat):Int) < j
     ·rw[if_pos hlt,if_neg (by decide),if_pos (.inr rfl),zcW up r (by omega) (by omega)];refine⟨fun h=>(by cases h),fun _=>?_⟩;rw[if_neg hne];refine⟨gy,gy,by rw[T.at_up g1];exact hgy,?_,rfl,fun _=>za4 gy⟩;rw[hnew,T.at_go (by omega) (by rw[hkids,List.length_append,List.length_cons];omega),hkids];rw[zbh (by omega)] at w2 ⊢;have i1:j.toNat - c.length=((j + -1).toNat - c.length - 1)+2:=by omega
      have i2:(j + -1).toNat - c.length=((j + -1).toNat - c.length - 1)+1:=by omega
      rw[i1] at w2;rw[i2];exact w2
     ·rw[if_neg hlt,if_neg (by decide),if_neg (by decide)];refine⟨fun h=>(by cases h),fun _=>?_⟩;rw[if_neg hne]
      by_cases hji:j < i
      ·refine⟨gy,gy,by rw[T.at_up g1];exact hgy,?_,rfl,fun _=>za4 gy⟩;rw[hnew,T.at_go w0 (by rw[hkids,List.length_append];omega),hkids];rw[zbg (by omega)] at w2 ⊢;exact w2
      ·have hjc:j.toNat=c.length:=by omega
       rw[hjc,zbh zQ1,Nat.sub_self,List.getD_cons_zero] at w2
       have hstep:(doG o g).at (up++j::r)=(hx.gjoin hk).at r:=by
        rw[hnew,T.at_go w0 (by rw[hkids,List.length_append,List.length_cons];omega),hkids,hjc,zbh zQ1,Nat.sub_self,List.getD_cons_zero]
       cases r with
       | nil =>
        injection w2 with w2
        subst w2;exact⟨hx,hx.gjoin hk,by rw[T.at_up g1];exact hgy,hstep,lab_join g6,fun _=>⟨hk.ts.tail,rfl⟩⟩
       | cons l r =>
        obtain⟨z0,z1,z2⟩:=T.at_of w2;refine⟨gy,gy,by rw[T.at_up g1];exact hgy,?_,rfl,fun _=>za4 gy⟩;have hjk:(hx.gjoin hk).ks=hx.ks++hk.ks:=rfl;rw[hstep,T.at_go z0 (by rw[hjk,List.length_append];omega),hjk,zbg (by omega)];exact z2
   ·rw[zc3 hn,if_neg (by decide),if_neg (by decide)];refine⟨fun h=>(by cases h),fun _=>?_⟩;rw[if_neg (fun h=>hn _ [] h.2)];obtain⟨y',q1,q2,_⟩:=T.at_not (z:=v.kids (c++hx.gjoin hk::d)) g1 hgy hn (fun _=>rfl);exact⟨gy,y',hgy,by rw[g9];exact q1,lab_data q2,fun _=>ext_data q2⟩
  ·obtain⟨up,i,u,k,a,b,e1,e2,_,e3,e4,p0,p1,_,_⟩:=done4 hf h1 hs;have hu:=T.chk_at hc e2;have hkc:=T.chk_ks hu k (by rw[e3];simp)
   have hib:i < 4611686018427387:=by
    have h1:=zav e2;have h2:=u.ks_bulk;rw[e3,List.length_append] at h2;omega
   obtain⟨v,hk,c,d,g1,g2,g3,g4,g5,g6,g7,g9⟩:=ghost4 h1 hg e1 e2 e3 e4 hib;rw[e1,if_neg (by simp)];unfold moveK;rw[if_neg (by omega),if_neg (by omega),if_neg (by omega),if_pos h1,zc0,Nat.add_sub_cancel];rw[<- e1];have keep':∀ {q:List Int} {h':T},(doG o g).at q=some h'->lab h'=lab gy/\(¬ (p=o.path/\(o.kind=3\/o.kind=4\/o.kind=7\/o.kind=8))->∃ r,h'.ts=gy.ts++r)->∃ h h',g.at (if o.kind=3/\p=o.path then (zap o.path).1 else p)=some h/\(doG o g).at q=some h'/\lab h'=lab h/\(¬ (p=o.path/\(o.kind=3\/o.kind=4\/o.kind=7\/o.kind=8))->∃ r,h'.ts=h.ts++r):=fun h2 h3=>keep (by omega) h2 h3;clear keep;rw[e1] at keep' ⊢
   rcases below_or up p with ⟨j,r,rfl⟩ | hn
   ·have hj1:=hsp j (by simp);rw[zc4];have hgy':=hgy;rw[T.at_up g1] at hgy;obtain⟨w0,w1,w2⟩:=T.at_of hgy;rw[g3] at w1 w2;rw[List.length_append,List.length_cons] at w1;have hnew:∀ q:List Int,(doG o g).at (up++q)=(v.kids (c++hk.gfirst o.pos.toNat::hk.gsecond o.pos.toNat::d)).at q:=fun q=>by rw[g9,T.at_on g1]
    have hkids:(v.kids (c++hk.gfirst o.pos.toNat::hk.gsecond o.pos.toNat::d)).ks=c++hk.gfirst o.pos.toNat::hk.gsecond o.pos.toNat::d:=rfl
    by_cases hj:j=(i:Int)
    ·subst hj;rw[if_pos rfl];have hjc:(i:Int).toNat=c.length:=by omega
     rw[hjc,zbh zQ1,Nat.sub_self,List.getD_cons_zero] at w2
     have hstep:∀ q,(doG o g).at (up++(i:Int)::q)=(hk.gfirst o.pos.toNat).at q:=fun q=>by
      rw[hnew,T.at_go w0 (by rw[hkids,List.length_append,List.length_cons];omega),hkids,hjc,zbh zQ1,Nat.sub_self,List.getD_cons_zero]
     by_cases hr:r=[]
     ·subst hr;rw[if_pos rfl,if_neg (fun h=>absurd h.1 (by decide)),if_neg (by decide)];refine⟨fun h=>(by cases h),fun _=>?_⟩;injection w2 with w2
      subst w2;exact keep' (hstep []) ⟨lab_first g6,fun hn=>absurd ⟨rfl,.inr (.inl h1)⟩ hn⟩
     ·rw[if_neg hr]
      cases r with
      | nil=>exact absurd rfl hr
      | cons l r =>
       obtain⟨z0,z1,z2⟩:=T.at_of w2;have hgl:(up++(i:Int)::l::r).getD (up.length+1) 0=l:=by simp[List.getD]
       rw[hgl]
       have hkne:k.ks≠[]:=fun e=>by
        have:=zbK (like_iff.1 g6).2.2;rw[e] at this;rw[this] at z1
        simp at z1
        omega
       have hel:=like_elem hkc g6 hkne;have hne:hk.ks≠[]:=fun e=>by rw[e] at z1;simp at z1;omega
       have hff:hk.gfirst o.pos.toNat=.mk false [] hk.ts (hk.ks.take o.pos.toNat):=by unfold T.gfirst;rw[if_neg (fun h=>hne h.2)]
       have hss:hk.gsecond o.pos.toNat=.mk false [] [-2] (hk.ks.drop o.pos.toNat):=by unfold T.gsecond;rw[if_neg (fun h=>hne h.2)]
       have hl1:=hsp l (by simp)
       by_cases hle:o.pos<=l
       ·rw[if_pos ⟨rfl,hle⟩]
        have s1:zcV (up++(i:Int)::l::r) (up.length+1) (-o.pos)=up++(i:Int)::(l + -o.pos)::r:=by
         have:=zcW (up++[(i:Int)]) (j:=l) (d:=-o.pos) r (by omega) (by omega);rw[zc0,List.append_assoc,List.append_assoc] at this;exact this
        rw[s1,zcW up ((l + -o.pos)::r) (by omega) (by omega)];refine⟨fun h=>(by cases h),fun _=>keep' (h':=gy) ?_ ⟨rfl,fun _=>za4 gy⟩⟩;rw[hnew,T.at_go (by omega) (by rw[hkids,List.length_append,List.length_cons,List.length_cons];omega),hkids,zbh (by omega),show ((i:Int)+1).toNat - c.length=0+1 by omega]
        show (hk.gsecond o.pos.toNat).at _=_
        rw[hss];have hdk:(T.mk false [] [-2] (hk.ks.drop o.pos.toNat)).ks=hk.ks.drop o.pos.toNat:=rfl
        have hgd:(hk.ks.drop o.pos.toNat).getD (l + -o.pos).toNat default=hk.ks.getD l.toNat default:=by
         simp only[List.getD,List.getElem?_drop];rw[show o.pos.toNat+(l + -o.pos).toNat=l.toNat by omega]
        rw[T.at_go (by omega) (by rw[hdk,List.length_drop];omega),hdk,hgd];exact z2
       ·rw[if_neg (fun h=>hle h.2),if_neg (by decide)];refine⟨fun h=>(by cases h),fun _=>keep' (h':=gy) ?_ ⟨rfl,fun _=>za4 gy⟩⟩;rw[hstep,hff];have hdk:(T.mk false [] hk.ts (hk.ks.take o.pos.toNat)).ks=hk.ks.take o.pos.toNat:=rfl
        have hgt:(hk.ks.take o.pos.toNat).getD l.toNat default=hk.ks.getD l.toNat default:=by
         simp[List.getD,show l.toNat < o.pos.toNat by omega]
        rw[T.at_go z0 (by rw[hdk,List.length_take];omega),hdk,hgt];exact z2
    ·rw[if_neg hj]
     by_cases hlt:(i:Int) < j
     ·rw[if_pos hlt,if_neg (fun h=>absurd h.1 (by decide)),if_pos rfl,zcW up r (by omega) (by omega)];refine⟨fun h=>(by cases h),fun _=>keep' (h':=gy) ?_ ⟨rfl,fun _=>za4 gy⟩⟩;rw[hnew,T.at_go (by omega) (by rw[hkids,List.length_append,List.length_cons,List.length_cons];omega),hkids];rw[zbh (by omega)] at w2 ⊢;have i1:j.toNat - c.length=(j.toNat - c.length - 1)+1:=by omega
      have i2:(j+1).toNat - c.length=(j.toNat - c.length - 1)+2:=by omega
      rw[i1] at w2;rw[i2];exact w2
     ·rw[if_neg hlt,if_neg (fun h=>absurd h.1 (by decide)),if_neg (by decide)];refine⟨fun h=>(by cases h),fun _=>keep' (h':=gy) ?_ ⟨rfl,fun _=>za4 gy⟩⟩;rw[hnew,T.at_go w0 (by rw[hkids,List.length_append];omega),hkids];rw[zbg (by omega)] at w2 ⊢;exact w2
   ·rw[zc3 hn,if_neg (fun h=>absurd h.1 (by decide)),if_neg (by decide)];obtain⟨y',q1,q2,_⟩:=T.at_not (z:=v.kids (c++hk.gfirst o.pos.toNat::hk.gsecond o.pos.toNat::d)) g1 hgy hn (fun _=>rfl);exact⟨fun h=>(by cases h),fun _=>keep' (by rw[g9];exact q1) ⟨lab_data q2,fun _=>ext_data q2⟩⟩
  ·obtain⟨up,vp,i,j,u,v,k,r,a,b,c,d,e1,e2,e3,e4,er,f1,f2,_,f4,f5,_⟩:=done5 hf h1 hs;obtain⟨gu,h,gr,gv,a',b',c',d',g1,g2,g3,g4,g5,g6,g7,g8,g9,g10,g11,g12,g13,g14⟩:=ghost5 h1 hg e1 e2 e3 e4 er f1 f2 f4 f5;rw[e1,if_neg (by simp)];unfold moveK;rw[if_neg (by omega),if_neg (by omega),if_neg (by omega),if_neg (by omega),if_pos h1,zc0,Nat.add_sub_cancel];rw[<- e1]
   by_cases h32:zc2 o.path p=3\/zc2 o.path p=2
   ·rw[if_pos h32];refine⟨fun h=>(by cases h),fun _=>?_⟩;rw[e1] at h32;obtain⟨q,hq,_⟩:=stands_in h32
    have hdr:p.drop (up.length+1)=q:=by
     rw[hq,show up++(i:Int)::q=(up++[(i:Int)])++q by simp,List.drop_left' (by simp)]
    refine keep (h':=gy) (by omega) ?_ ⟨rfl,fun _=>za4 gy⟩;rw[hdr,g14,f1];have hat:(T.setAt (gv.kids (c'++h::d')) gr vp).at (vp++[(j:Int)])=some h:=T.at_the_kid (T.at_setAt g8) rfl g11;rw[T.at_both,hat];rw[hq,show up++(i:Int)::q=(up++[(i:Int)])++q by simp,T.at_both,T.at_the_kid g1 g3 g4] at hgy;exact hgy
   ·rw[if_neg h32];refine⟨fun h=>(by cases h),fun _=>?_⟩;rw[e1] at h32 ⊢;obtain⟨y1,q1,q2,_⟩:=T.pos_cut g1 g3 g4 hgy hsp' (fun e=>h32 (.inl e)) (fun e=>h32 (.inr e));rw[<- g6] at q1
    have hsm:∀ l∈(if zc2 (up++[(i:Int)]) p=1 then zcV p up.length (-1) else p),l<=1048576:=by
     intro l hl
     split at hl
     ·unfold zcV at hl
      rcases List.mem_or_eq_of_mem_set hl with h | h
      ·exact hsp' l h
      ·rcases below_or up p with ⟨j',r',hj'⟩ | hn
       ·have hg:p.getD up.length 0=j':=by rw[hj'];simp[List.getD]
        have hj2:=hsp j' (by rw[hj'];simp);rw[hg,zdx (by omega) (by omega)] at h;omega
       ·rename_i hx
        rw[zc3 hn] at hx;cases hx
     ·exact hsp' l hl
    obtain⟨y2,q3,q4,_⟩:=T.pos_ins (m:=h) g8 g10 g11 q1 hsm;rw[<- g14,<- f1] at q3;rw[<- e1];rw[<- e1] at q3;exact keep (by omega) q3 ⟨lab_data (q4.trans q2),fun _=>ext_data (q4.trans q2)⟩
  ·obtain⟨k,k',e1,e2,e3⟩:=done6 hf h1 hs
   have hmv:(if o.path.length=0 then (p,true) else moveK p o.path o.dest o.kind o.pos (zc2 o.path p))=(p,true):=by
    split
    ·rfl
    ·unfold moveK;rw[if_neg (by omega),if_neg (by omega),if_neg (by omega),if_neg (by omega),if_neg (by omega)]
   rw[hmv];refine⟨fun h=>(by cases h),fun _=>?_⟩
   have own:∀(h h':T),g.at o.path=some h->h'.ks=h.ks->lab h'=lab h->doG o g=T.setAt h' g o.path->(o.kind=7\/o.kind=8)->∃ h'',(doG o g).at p=some h''/\lab h''=lab gy/\(¬ (p=o.path/\(o.kind=3\/o.kind=4\/o.kind=7\/o.kind=8))->∃ r,h''.ts=gy.ts++r):=by
    intro h h' h2 h3 h4 h5 h78;rw[h5]
    rcases below_or o.path p with ⟨j,r,hj⟩ | hn
    ·rw[hj,T.at_on h2];rw[hj,T.at_up h2] at hgy;obtain⟨z0,z1,z2⟩:=T.at_of hgy;exact⟨gy,by rw[T.at_go z0 (by rw[h3];exact z1),h3];exact z2,rfl,fun _=>za4 gy⟩
    ·by_cases hpp:p=o.path
     ·rw[hpp,T.at_setAt h2];rw[hpp,h2] at hgy;injection hgy with hgy
      subst hgy;exact⟨h',rfl,h4,fun hn=>absurd ⟨rfl,.inr (.inr h78)⟩ hn⟩
     ·obtain⟨y',q1,q2,_⟩:=T.at_not (z:=h') h2 hgy hn (fun e=>absurd e hpp);exact⟨y',q1,lab_data q2,fun _=>ext_data q2⟩
   rcases h1 with h1 | h1 | h1
   ·exact keep (by omega) (by rw[doG_own (.inl h1)];exact hgy) ⟨rfl,fun _=>za4 gy⟩
   ·obtain⟨h,hh,hhl,hd⟩:=ghost7 h1 hg e1;obtain⟨l,q,el,_⟩:=like_ts hhl;obtain⟨h'',q1,q2⟩:=own h (.mk false [] (h.ts.take (o.pos.toNat+1)++List.replicate o.text.length (-2)++h.ts.drop (o.pos.toNat+1)) h.ks) hh rfl (by unfold lab;rw[T.ts_mk,el];rfl) hd (.inl h1);exact keep (by omega) q1 q2
   ·obtain⟨h,hh,hhl,hd⟩:=ghost8 h1 hg e1;obtain⟨l,q,el,_⟩:=like_ts hhl;obtain⟨h'',q1,q2⟩:=own h (.mk false [] (h.ts.take (o.pos.toNat+1)++h.ts.drop (o.pos.toNat+1+o.text.length)) h.ks) hh rfl (by unfold lab;rw[T.ts_mk,el];rfl) hd (.inr h1);exact keep (by omega) q1 q2
theorem ghost_move{n g:T}{s:SelE}{o:OpE}{p:List Int}{y:T}(hb:n.bulk<=1048576)(hg:like g n)(happ:(zak n s o).2.2=0)(hp:n.at p=some y) :
  ((zbT p o.path o.dest o.kind o.pos).2=false->o.kind=2/\(p=o.path\/zaf o.path p=true)) /\
  ((zbT p o.path o.dest o.kind o.pos).2=true->∃ h h',g.at (if o.kind=3/\p=o.path then (zap o.path).1 else p)=some h/\(doG o g).at (zbT p o.path o.dest o.kind o.pos).1=some h'/\lab h'=lab h):=by
 obtain⟨h1,h2⟩:=ghost_all hb hg happ hp;refine⟨h1,fun hm=>?_⟩;obtain⟨h,h',q1,q2,q3,_⟩:=h2 hm;exact⟨h,h',q1,q2,q3⟩
mutual
/-- as many Kids at each place -/
def shp:T->T->Prop
 | .mk _ _ _ gk,n=>shps gk n.ks
def shps:List T->List T->Prop
 | [],l=>l=[]
 | g::r,l=>∃ k l',l=k::l'/\shp g k/\shps r l'
end
theorem shps_nil:shps [] []:=by rw[shps]
theorem shp_iff{g n:T}:shp g n ↔ shps g.ks n.ks:=by cases g;rw[shp];rfl
theorem shps_cons{g k:T}{r l:List T}:shps (g::r) (k::l) ↔ shp g k/\shps r l:=by
 rw[shps]
 constructor
 ·rintro⟨k',l',e,h1,h2⟩;injection e with e1 e2
  subst e1 e2;exact⟨h1,h2⟩
 ·rintro⟨h1,h2⟩;exact⟨k,l,rfl,h1,h2⟩
theorem shps_len:∀ {a b:List T},shps a b->a.length=b.length
 | [],b,h=>by rw[shps] at h;rw[h]
 | g::r,b,h=>by
  rw[shps] at h;obtain⟨k,l,rfl,_,h2⟩:=h;rw[List.length_cons,List.length_cons,shps_len h2]
theorem shps_app:∀ {a b c d:List T},shps a b->shps c d->shps (a++c) (b++d)
 | [],b,c,d,h,h'=>by rw[shps] at h;rw[h];exact h'
 | g::r,b,c,d,h,h'=>by
  rw[shps] at h;obtain⟨k,l,rfl,h1,h2⟩:=h;exact shps_cons.2 ⟨h1,shps_app h2 h'⟩
theorem shps_take:∀ {a b:List T} (q:Nat),shps a b->shps (a.take q) (b.take q)/\shps (a.drop q) (b.drop q)
 | [],b,q,h=>by rw[shps] at h;rw[h];simp[shps]
 | g::r,b,0,h=>by simpa [shps] using h
 | g::r,b,q+1,h=>by
  rw[shps] at h;obtain⟨k,l,rfl,h1,h2⟩:=h;obtain⟨q1,q2⟩:=shps_take q h2;exact⟨shps_cons.2 ⟨h1,q1⟩,q2⟩
theorem shps_getD:∀ {L M:List T} (i:Nat),shps L M->i < L.length->shp (L.getD i default) (M.getD i default)
 | [],M,i,_,hi=>absurd hi (Nat.not_lt_zero _)
 | g::L,M,0,h,_=>by
  rw[shps] at h;obtain⟨k,l,rfl,h1,_⟩:=h;exact h1
 | g::L,M,i+1,h,hi=>by
  rw[shps] at h;obtain⟨k,l,rfl,_,h2⟩:=h;simp only[List.getD_cons_succ];exact shps_getD i h2 (by simpa using hi)
theorem shps_set:∀ {L M:List T} (i:Nat) {x y:T},shps L M->shp x y->shps (L.set i x) (M.set i y)
 | [],M,i,x,y,h,_=>by rw[shps] at h;rw[h];simp[shps]
 | g::L,M,0,x,y,h,h'=>by
  rw[shps] at h;obtain⟨k,l,rfl,_,h2⟩:=h;exact shps_cons.2 ⟨h',h2⟩
 | g::L,M,i+1,x,y,h,h'=>by
  rw[shps] at h;obtain⟨k,l,rfl,h1,h2⟩:=h;exact shps_cons.2 ⟨h1,shps_set i h2 h'⟩
theorem like_shp(g:T):∀ n,like g n->shp g n:=by
 induction g using T.ind with
 | h g ih =>
  intro n h;have hl:=(like_iff.1 h).2.2
  have key:∀(l m:List T),(∀ k∈l,∀ n,like k n->shp k n)->likes l m->shps l m:=by
   intro l
   induction l with
   | nil=>intro m _ h;rw[likes] at h;rw[h];simp[shps]
   | cons k r ihl =>
    intro m h hm;rw[likes] at hm;obtain⟨x,l',rfl,h1,h2⟩:=hm;exact shps_cons.2 ⟨h k (by simp) x h1,ihl l' (fun y hy=>h y (by simp[hy])) h2⟩
  exact shp_iff.2 (key g.ks n.ks ih hl)
theorem shp_at{h:T}:∀ {p:List Int} {g n:T},shp g n->g.at p=some h->∃ k,n.at p=some k/\shp h k:=by
 intro p
 induction p with
 | nil=>intro g n h e;injection e with e;subst e;exact⟨n,rfl,h⟩
 | cons i r ih =>
  intro g n h e;obtain⟨h0,h1,h2⟩:=T.at_of e;have hl:=shp_iff.1 h;have hlen:=shps_len hl;obtain⟨x,hx,hxk⟩:=ih (shps_getD i.toNat hl (by omega)) h2;exact⟨x,by rw[T.at_go h0 (by omega)];exact hx,hxk⟩
theorem shp_set{h' k' k:T}(hh:shp h' k'):∀ {p:List Int} {g n:T},shp g n->n.at p=some k->shp (T.setAt h' g p) (T.setAt k' n p):=by
 intro p
 induction p with
 | nil=>intro g n _ _;exact hh
 | cons i r ih =>
  intro g n h e;obtain⟨h0,h1,h2⟩:=T.at_of e;have hl:=shp_iff.1 h;have hlen:=shps_len hl;exact shp_iff.2 (shps_set i.toNat hl (ih (shps_getD i.toNat hl (by omega)) h2))
theorem ghost_shp{n g:T}{s:SelE}{o:OpE}(hb:n.bulk<=1048576)(hg:like g n)(ha:(zak n s o).2.2=0):shp (doG o g) (zak n s o).1:=by
 by_cases h4:o.kind=4
 ·obtain⟨hm,h⟩:=zal ha;obtain⟨hc,_,_,hf⟩:=may_ok hm
  rcases h with ⟨h9,_⟩ | ⟨_,hs,_,he⟩
  ·omega
  ·rw[he]
   show shp _ (zcT n o).1
   obtain⟨up,i,u,k,a,b,e1,e2,e3,e4,e5,p0,p1,_,e8⟩:=done4 hf h4 hs
   obtain⟨v,hk,c,d,g1,g2,g3,g4,g5,g6,g7,g9⟩:=ghost4 h4 hg e1 e2 e4 e5 (by
    have h1:=zav e2;have h2:=u.ks_bulk;rw[e4,List.length_append] at h2
    omega)
   rw[g9,e8];refine shp_set (shp_iff.2 ?_) (like_shp _ _ hg) e2;rw[T.kids_ks,T.kids_ks];have hkc:=T.chk_ks (T.chk_at hc e2) k (by rw[e4];simp)
   have likes_shps:∀ {l m:List T},likes l m->shps l m:=fun {l} {m} hl=>by
    have:=like_shp (.mk false [] [0] l) (.mk false [] [] m) (like_iff.2 ⟨rfl,rfl,hl⟩);exact shp_iff.1 this
   have hks:=likes_shps (like_iff.1 g6).2.2;have hlen:=shps_len hks;refine shps_app (likes_shps g5) (shps_cons.2 ⟨?_,shps_cons.2 ⟨?_,likes_shps g7⟩⟩)
   ·refine shp_iff.2 ?_;unfold T.gfirst T.first
    split
    ·rename_i hA
     have hk0:k.ks=[]:=List.eq_nil_of_length_eq_zero (by rw[<- hlen,hA.2];rfl)
     split
     ·exact hks
     ·show shps hk.ks (k.ks.take o.pos.toNat)
      rw[hA.2,hk0,List.take_nil];exact shps_nil
    ·split
     ·rename_i hlf
      have hk0:k.ks=[]:=T.chk_leaf hkc hlf;have hh0:hk.ks=[]:=List.eq_nil_of_length_eq_zero (by rw[hlen,hk0];rfl)
      show shps (hk.ks.take o.pos.toNat) k.ks
      rw[hh0,hk0,List.take_nil];exact shps_nil
     ·exact (shps_take o.pos.toNat hks).1
   ·refine shp_iff.2 ?_;unfold T.gsecond T.second
    split
    ·rename_i hA
     have hk0:k.ks=[]:=List.eq_nil_of_length_eq_zero (by rw[<- hlen,hA.2];rfl)
     split
     ·exact shps_nil
     ·show shps [] (k.ks.drop o.pos.toNat)
      rw[hk0,List.drop_nil];exact shps_nil
    ·split
     ·rename_i hlf
      have hk0:k.ks=[]:=T.chk_leaf hkc hlf;have hh0:hk.ks=[]:=List.eq_nil_of_length_eq_zero (by rw[hlen,hk0];rfl)
      show shps (hk.ks.drop o.pos.toNat) []
      rw[hh0,List.drop_nil];exact shps_nil
     ·exact (shps_take o.pos.toNat hks).2
 ·exact like_shp _ _ (doG_like (by omega) hg ha h4)
theorem ghost_stands{n g h:T}{s:SelE}{o:OpE}{q:List Int}(hb:n.bulk<=1048576)(hg:like g n)(ha:(zak n s o).2.2=0)(hq:(doG o g).at q=some h):∃ k,(zak n s o).1.at q=some k:=by
 obtain⟨k,hk,_⟩:=shp_at (ghost_shp hb hg ha) hq;exact⟨k,hk⟩
mutual
/-- the sum,over all nodes,of what a node's own row counts for -/
def T.tot (f:List Int->Nat):T->Nat
 | .mk _ _ ts ks=>f ts+T.tots f ks
def T.tots (f:List Int->Nat):List T->Nat
 | []=>0
 | k::r=>T.tot f k+T.tots f r
end
theorem T.tot_eq(f:List Int->Nat)(t:T):t.tot f=f t.ts+T.tots f t.ks:=by cases t;rw[T.tot];rfl
theorem T.tots_nil(f:List Int->Nat):T.tots f []=0:=by rw[T.tots]
theorem T.tots_cons(f:List Int->Nat)(k:T)(r:List T):T.tots f (k::r)=k.tot f+T.tots f r:=by rw[T.tots]
theorem T.tots_append(f:List Int->Nat):∀(a b:List T),T.tots f (a++b)=T.tots f a+T.tots f b
 | [],b=>by rw[List.nil_append,T.tots_nil,Nat.zero_add]
 | k::r,b=>by rw[List.cons_append,T.tots_cons,T.tots_cons,T.tots_append f r b,Nat.add_assoc]
theorem T.tots_set(f:List Int->Nat)(k:T):∀(l:List T) (i:Nat),i < l.length->T.tots f (l.set i k)+(l.getD i default).tot f=T.tots f l+k.tot f
 | [],i,h=>absurd h (Nat.not_lt_zero _)
 | x::r,0,_=>by simp only[List.set_cons_zero,T.tots_cons,List.getD_cons_zero];omega
 | x::r,i+1,h=>by
  have:=T.tots_set f k r i (by simpa using h);simp only[List.set_cons_succ,T.tots_cons,List.getD_cons_succ];omega
theorem T.tots_one(f:List Int->Nat):∀(l:List T) (i:Nat),i < l.length->(l.getD i default).tot f<=T.tots f l
 | [],i,h=>absurd h (Nat.not_lt_zero _)
 | x::r,0,_=>by simp only[T.tots_cons,List.getD_cons_zero];omega
 | x::r,i+1,h=>by
  have:=T.tots_one f r i (by simpa using h);simp only[T.tots_cons,List.getD_cons_succ];omega
theorem T.tots_two(f:List Int->Nat):∀(l:List T) (i j:Nat),i < l.length->j < l.length->i≠j->(l.getD i default).tot f+(l.getD j default).tot f<=T.tots f l
 | [],i,_,h,_,_=>absurd h (Nat.not_lt_zero _)
 | x::r,0,0,_,_,h=>absurd rfl h
 | x::r,0,j+1,_,hj,_=>by
  have:=T.tots_one f r j (by simpa using hj);simp only[T.tots_cons,List.getD_cons_zero,List.getD_cons_succ];omega
 | x::r,i+1,0,hi,_,_=>by
  have:=T.tots_one f r i (by simpa using hi);simp only[T.tots_cons,List.getD_cons_zero,List.getD_cons_succ];omega
 | x::r,i+1,j+1,hi,hj,h=>by
  have:=T.tots_two f r i j (by simpa using hi) (by simpa using hj) (by omega);simp only[T.tots_cons,List.getD_cons_succ];omega
theorem T.tot_setAt(f:List Int->Nat){y y':T}:∀ {p:List Int} {t:T},t.at p=some y->(T.setAt y' t p).tot f+y.tot f=t.tot f+y'.tot f:=by
 intro p
 induction p with
 | nil=>intro t h;injection h with h;subst h;show y'.tot f+_=_;omega
 | cons i r ih =>
  intro t h;obtain⟨h0,h1,h2⟩:=T.at_of h;have h3:=ih h2;have h4:=T.tots_set f (T.setAt y' (t.ks.getD i.toNat default) r) t.ks i.toNat (by omega);rw[T.setAt,T.tot,T.tot_eq f t];omega
theorem T.tot_kids(f:List Int->Nat)(u:T)(l:List T):(u.kids l).tot f=f u.ts+T.tots f l:=by rw[T.tot_eq];rfl
theorem T.tot_at(f:List Int->Nat){y:T}:∀ {p:List Int} {t:T},t.at p=some y->y.tot f<=t.tot f:=by
 intro p
 induction p with
 | nil=>intro t h;injection h with h;subst h;exact Nat.le_refl _
 | cons i r ih =>
  intro t h;obtain⟨h0,h1,h2⟩:=T.at_of h;have h3:=ih h2;have h4:=T.tots_one f t.ks i.toNat (by omega);rw[T.tot_eq f t];omega
theorem T.tot_own(f:List Int->Nat)(t:T):f t.ts<=t.tot f:=by rw[T.tot_eq];omega
theorem T.at_once(f:List Int->Nat){y z:T}:∀ {p q:List Int} {t:T},t.at p=some y->t.at q=some z->0 < f y.ts->0 < f z.ts->t.tot f<=1->p=q:=by
 intro p
 induction p with
 | nil =>
  intro q t hp hq hy hz h1;injection hp with hp
  subst hp
  cases q with
  | nil=>rfl
  | cons j r =>
   obtain⟨h0,h2,h3⟩:=T.at_of hq;have h4:=T.tot_at f h3;have h5:=T.tots_one f t.ks j.toNat (by omega);have h6:=T.tot_own f z;rw[T.tot_eq] at h1;omega
 | cons i r ih =>
  intro q t hp hq hy hz h1;obtain⟨h0,h2,h3⟩:=T.at_of hp;have h4:=T.tot_at f h3;have h5:=T.tots_one f t.ks i.toNat (by omega);have h6:=T.tot_own f y;rw[T.tot_eq] at h1
  cases q with
  | nil =>
   injection hq with hq
   subst hq;omega
  | cons j s =>
   obtain⟨k0,k2,k3⟩:=T.at_of hq;have k4:=T.tot_at f k3;have k5:=T.tots_one f t.ks j.toNat (by omega);have k6:=T.tot_own f z
   by_cases hij:i=j
   ·subst hij;rw[ih h3 k3 hy hz (by omega)]
   ·have:=T.tots_two f t.ks i.toNat j.toNat (by omega) (by omega) (by omega);omega
theorem T.tot_mono{f g:List Int->Nat}(h:∀ l,f l<=g l)(t:T):t.tot f<=t.tot g:=by
 induction t using T.ind with
 | h t ih =>
  have key:∀ l:List T,(∀ k∈l,k.tot f<=k.tot g)->T.tots f l<=T.tots g l:=by
   intro l
   induction l with
   | nil=>intro _;rw[T.tots_nil,T.tots_nil];exact Nat.le_refl _
   | cons k r ihl =>
    intro hk;rw[T.tots_cons,T.tots_cons];have h1:=hk k (by simp);have h2:=ihl (fun x hx=>hk x (by simp[hx]));omega
  rw[T.tot_eq,T.tot_eq];have h1:=key t.ks ih;have h2:=h t.ts;omega
def fLab(z:Int)(l:List Int):Nat:=(l.take 1).count z
def fAll(z:Int)(l:List Int):Nat:=l.count z
theorem fLab_le(z:Int)(l:List Int):fLab z l<=fAll z l:=(List.take_sublist 1 l).count_le z
theorem fAll_row(z s:Int)(n:Nat):fAll z (s::(List.range n).map (fun i:Nat=>s+1+(i:Int)))<=1/\(¬ (s<=z/\z < s+1+n)->fAll z (s::(List.range n).map (fun i:Nat=>s+1+(i:Int)))=0):=by
 constructor
 ·refine List.nodup_iff_count.1 ?_ z;rw[List.nodup_cons];refine⟨fun h=>?_,?_⟩
  ·obtain⟨i,_,hi⟩:=List.mem_map.1 h;omega
  ·refine List.pairwise_map.2 (List.Pairwise.imp (R:=fun a b:Nat=>a≠b) (fun {a b} hab=>?_) List.nodup_range);intro h;exact hab (by omega)
 ·intro h;refine List.count_eq_zero.2 fun hm=>?_
  rcases List.mem_cons.1 hm with e | hm
  ·omega
  ·obtain⟨i,hi,e⟩:=List.mem_map.1 hm;have:=List.mem_range.1 hi;omega
theorem gh_once(z:Int)(t:T):∀ s,(gh t s).tot (fAll z)<=1/\(¬ (s<=z/\z < s+t.size)->(gh t s).tot (fAll z)=0):=by
 induction t using T.ind with
 | h t ih =>
  have key:∀(l:List T),(∀ k∈l,∀ s,(gh k s).tot (fAll z)<=1/\(¬ (s<=z/\z < s+k.size)->(gh k s).tot (fAll z)=0)) ->
    ∀ s,T.tots (fAll z) (ghs l s)<=1/\(¬ (s<=z/\z < s+T.sizes l)->T.tots (fAll z) (ghs l s)=0):=by
   intro l
   induction l with
   | nil=>intro _ s;rw[ghs,T.tots_nil];exact⟨by omega,fun _=>rfl⟩
   | cons k r ihl =>
    intro hk s;rw[ghs,T.tots_cons,T.sizes];obtain⟨a1,a2⟩:=hk k (by simp) s;obtain⟨b1,b2⟩:=ihl (fun x hx=>hk x (by simp[hx])) (s+k.size)
    constructor
    ·by_cases hz:s<=z/\z < s+k.size
     ·have:=b2 (by omega);omega
     ·have:=a2 hz;omega
    ·intro hz;have h1:=a2 (by omega);have h2:=b2 (by omega);omega
  intro s;obtain⟨lf,ps,ts,ks⟩:=t;obtain⟨b1,b2⟩:=key ks ih (s+1+ts.length);obtain⟨a1,a2⟩:=fAll_row z s ts.length;rw[gh,T.tot,T.size]
  constructor
  ·by_cases hz:s<=z/\z < s+1+ts.length
   ·have:=b2 (by omega);omega
   ·have:=a2 hz;omega
  ·intro hz;have h1:=a2 (by omega);have h2:=b2 (by omega);omega
theorem gh_lab_once(z:Int)(t:T):(gh t 0).tot (fLab z)<=1:=Nat.le_trans (T.tot_mono (fLab_le z) _) (gh_once z t 0).1
theorem gh_nonneg{t h:T}{p:List Int}(hp:(gh t 0).at p=some h):∀ z∈h.ts,0<=z:=by
 intro z hz;have h1:=T.tot_at (fAll z) hp;have h2:=T.tot_own (fAll z) h;have h3:0 < fAll z h.ts:=List.count_pos_iff.2 hz;have h4:=(gh_once z t 0).2
 by_cases hh:0<=z/\z < 0+(t.size:Int)
 ·exact hh.1
 ·have:=h4 hh;omega
theorem fgt_none{f:List Int->Nat}(hf:∀ l:List Int,f (l.map fun _=>-2)=0)(g:T):(fgt g).tot f=0:=by
 induction g using T.ind with
 | h g ih =>
  have key:∀ l:List T,(∀ k∈l,(fgt k).tot f=0)->T.tots f (fgts l)=0:=by
   intro l
   induction l with
   | nil=>intro _;rw[fgts,T.tots_nil]
   | cons k r ihl =>
    intro hk;rw[fgts,T.tots_cons,hk k (by simp),ihl (fun x hx=>hk x (by simp[hx]))]
  obtain⟨lf,ps,ts,ks⟩:=g;rw[fgt,T.tot,hf,key ks ih]
theorem fLab_none{z:Int}(h:0<=z)(l:List Int):fLab z (l.map fun _=>-2)=0:=by
 refine List.count_eq_zero.2 fun hm=>?_;obtain⟨_,_,e⟩:=List.mem_map.1 (List.mem_of_mem_take hm);omega
theorem fLab_eq{z:Int}{t n:T}(h:like t n):fLab z t.ts=if lab t=z then 1 else 0:=by
 obtain⟨l,r,e,_⟩:=like_ts h;unfold fLab lab;rw[e];simp only[List.take_succ_cons,List.take_zero,List.headD_cons,List.count_singleton]
 by_cases h:l=z <;> simp[h]
end Go.Proofs.YtccobobnmpafbaaGreatDoor
