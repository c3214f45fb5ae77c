/- WHERE A NODE STANDS behind a tree was changed at a path; plain. -/
import Derived.Test.YtccobobnmpafbaaGreatDoorK33
import Derived.Test.YtccobobnmpafbaaGreatDoorK10
import Derived.Test.YtccobobnmpafbaaGreatDoorK01
import Derived.Test.YtccobobnmpafbaaGreatDoorK09
import Derived.Test.YtccobobnmpafbaaGreatDoorK05
import Derived.Test.YtccobobnmpafbaaGreatDoorK11
import Derived.MapKept
set_option maxRecDepth 100000
set_option maxHeartbeats 100000000
namespace Go.Proofs.YtccobobnmpafbaaGreatDoor
open Go Go.RowKit
def T.data(t:T):T:=t.kids []
theorem T.data_lf{a b:T}(h:a.data=b.data):a.lf=b.lf:=by
 have:a.data.lf=b.data.lf:=by rw[h]
 exact this
theorem T.data_ts{a b:T}(h:a.data=b.data):a.ts=b.ts:=by
 have:a.data.ts=b.data.ts:=by rw[h]
 exact this
theorem T.at_go{t:T}{i:Int}{r:List Int}(h0:0<=i)(h1:i < t.ks.length):t.at (i::r)=(t.ks.getD i.toNat default).at r:=by rw[T.at,if_neg (by omega)]
theorem T.at_of{t y:T}{i:Int}{r:List Int}(h:t.at (i::r)=some y):0<=i/\i < t.ks.length/\(t.ks.getD i.toNat default).at r=some y:=by
 rw[T.at] at h
 split at h
 ·cases h
 ·exact⟨by omega,by omega,h⟩
theorem T.at_on{z x u:T}{up:List Int}(h:x.at up=some u)(r:List Int):(T.setAt z x up).at (up++r)=z.at r:=by
 rw[T.at_both,T.at_setAt h];rfl
theorem T.at_up{x u:T}{up:List Int}(h:x.at up=some u)(r:List Int):x.at (up++r)=u.at r:=by
 rw[T.at_both,h];rfl
theorem getD_setOff{α:Type}(l:List α){i j:Nat}(x d:α)(h:i≠j):(l.set i x).getD j d=l.getD j d:=by
 simp[List.getD,h]
theorem T.at_not{z:T}:∀ {up p:List Int} {x u y:T},x.at up=some u->x.at p=some y->(∀ j r,p≠up++j::r)->(p=up->z.data=u.data)->∃ y',(T.setAt z x up).at p=some y'/\y'.data=y.data/\((∀ r,up≠p++r)->y'=y):=by
 intro up
 induction up with
 | nil =>
  intro p x u y hu hp hn hz
  cases p with
  | cons j r=>exact absurd rfl (hn j r)
  | nil =>
   injection hu with hu
   injection hp with hp
   subst hu;subst hp;exact⟨z,rfl,hz rfl,fun h=>absurd rfl (h [])⟩
 | cons i s ih =>
  intro p x u y hu hp hn hz
  cases p with
  | nil =>
   injection hp with hp
   subst hp;exact⟨_,rfl,rfl,fun h=>absurd rfl (h (i::s))⟩
  | cons j r =>
   obtain⟨hi0,hi1,hu'⟩:=T.at_of hu;obtain⟨hj0,hj1,hp'⟩:=T.at_of hp;have hL:(T.setAt z x (i::s)).ks=x.ks.set i.toNat (T.setAt z (x.ks.getD i.toNat default) s):=rfl
   have hgo:(T.setAt z x (i::s)).at (j::r)=((x.ks.set i.toNat (T.setAt z (x.ks.getD i.toNat default) s)).getD j.toNat default).at r:=by
    rw[T.at_go hj0 (by rw[hL,List.length_set];exact hj1),hL]
   by_cases hij:i=j
   ·subst hij;rw[getD_setIdx _ _ _ _ (by omega)] at hgo;obtain⟨y',h1,h2,h3⟩:=ih hu' hp' (fun j' r' e=>hn j' r' (by rw[e];rfl)) (fun e=>hz (by rw[e]));exact⟨y',by rw[hgo,h1],h2,fun h=>h3 (fun r' e=>h r' (by rw[e];rfl))⟩
   ·rw[getD_setOff _ _ _ (by omega)] at hgo;exact⟨y,by rw[hgo,hp'],rfl,fun _=>rfl⟩
theorem zbb{a b:List T}{j:Nat}(h:j < a.length):(a++b).getD j default=a.getD j default:=by
 simp[List.getD,List.getElem?_append,h]
theorem zbc{a b:List T}{j:Nat}(h:a.length<=j):(a++b).getD j default=b.getD (j - a.length) default:=by
 simp[List.getD,List.getElem?_append,Nat.not_lt.2 h]
theorem alike_app(up:List Int)(a b:List Int):zag (up++a) (up++b)=up.length+zag a b:=by
 induction up with
 | nil=>simp
 | cons x r ih=>simp only[List.cons_append,zag,if_pos,List.length_cons,ih];omega
theorem alike_take:∀(a b:List Int),a.take (zag a b)=b.take (zag a b)
 | [],b=>by simp[zag]
 | x::a,[]=>by simp[zag]
 | x::a,y::b=>by
  unfold zag
  split
  ·rename_i h
   rw[List.take_succ_cons,List.take_succ_cons,alike_take a b,h]
  ·rfl
theorem zcZ(up:List Int)(i j:Int)(r:List Int):zcX (up++[i]) (up++j::r)=if j=i then (if r=[] then 3 else 2) else if i < j then 1 else 0:=by
 unfold zcX;rw[if_neg (by simp)]
 by_cases hj:j=i
 ·subst hj;rw[if_pos rfl]
  by_cases hr:r=[]
  ·subst hr;rw[if_pos rfl,if_pos rfl]
  ·have hne:¬ (up++[j]=up++j::r):=fun e=>by
    have:=List.append_cancel_left e;injection this with _ h
    exact hr h.symm
   rw[if_neg hne,if_neg hr,if_pos];unfold zad;have hl:0 < r.length:=List.length_pos_iff.2 hr;have h1:(up++[j]).length < (up++j::r).length:=by simp;omega
   have h2:up++[j]=(up++j::r).take (up++[j]).length:=by
    rw[show up++j::r=(up++[j])++r by simp,List.take_left' rfl]
   simp only[decide_eq_true h1,decide_eq_true h2,Bool.and_self]
 ·rw[if_neg hj]
  have hne:¬ (up++[i]=up++j::r):=fun e=>by
   have:=List.append_cancel_left e;injection this with h _
   exact hj h.symm
  have hab:¬ zad (up++[i]) (up++j::r)=true:=by
   rw[aboveP_alike,alike_app]
   have:zag [i] (j::r)=0:=by
    unfold zag;rw[if_neg (fun e=>hj e.symm)]
   rw[this]
   simp
  rw[if_neg hne,if_neg hab];unfold leftG
  have hal:zag (up++[i]) (up++j::r)=up.length:=by
   rw[alike_app]
   have:zag [i] (j::r)=0:=by
    unfold zag;rw[if_neg (fun e=>hj e.symm)]
   rw[this];rfl
  rw[hal];have g1:(up++[i]).getD up.length 0=i:=zcT up i;have g2:(up++j::r).getD up.length 0=j:=by simp[List.getD]
  rw[g1,g2]
  by_cases hlt:i < j
  ·rw[if_pos hlt,if_pos]
   simp[hlt]
  ·rw[if_neg hlt,if_neg]
   simp[hlt]
theorem zcY{up p:List Int}{i:Int}(h:∀ j r,p≠up++j::r):zcX (up++[i]) p=0:=by
 unfold zcX;rw[if_neg (by simp),if_neg (fun e=>h i [] e.symm)]
 have key:∀ k:Nat,up.length<=k->k<=p.length->up.length < p.length->(up++[i]).take k=p.take k->False:=by
  intro k h1 h2 h3 he
  have h4:(up++[i]).take up.length=p.take up.length:=by
   have:=congrArg (List.take up.length) he
   rwa [List.take_take,List.take_take,Nat.min_eq_left h1] at this
  rw[snoc_take] at h4;refine h (p.getD up.length 0) (p.drop (up.length+1)) ?_
  conv=>lhs;rw[<- List.take_append_drop up.length p]
  rw[<- h4,List.drop_eq_getElem_cons h3]
  simp[List.getD,List.getElem?_eq_getElem h3]
 rw[if_neg,if_neg]
 ·unfold leftG;intro hl;simp only[Bool.and_eq_true,decide_eq_true_eq] at hl;have h1:zag (up++[i]) p=up.length:=by have:=hl.1;simp at this;omega
  exact key _ (by omega) (by omega) (by omega) (h1 ▸ alike_take (up++[i]) p)
 ·unfold zad;intro hl;simp only[Bool.and_eq_true,decide_eq_true_eq] at hl;have h1:=hl.1;have h2:=hl.2;rw[List.length_append,List.length_singleton] at h1;refine key (up.length+1) (by omega) (by omega) (by omega) ?_;rw[List.length_append,List.length_singleton] at h2;rw[<- h2,List.take_of_length_le (by simp)]
theorem zan(up p:List Int):(∃ j r,p=up++j::r)\/(∀ j r,p≠up++j::r):=by
 by_cases h:∃ j r,p=up++j::r
 ·exact Or.inl h
 ·exact Or.inr fun j r e=>h ⟨j,r,e⟩
theorem wrap64_near{j:Int}(h0:-4611686018427387904<=j)(h1:j<=4611686018427387904):wrap64 j=j:=by
 unfold wrap64;omega
theorem zcQ(up:List Int){j d:Int}(r:List Int)(h0:-4611686018427387904<=j+d)(h1:j+d<=4611686018427387904):zcP (up++j::r) up.length d=up++(j+d)::r:=by
 unfold zcP;have g2:(up++j::r).getD up.length 0=j:=by simp[List.getD]
 rw[g2,wrap64_near h0 h1]
 simp
theorem T.pos_ins{x u m y:T}{up p:List Int}{i:Nat}{a b:List T}(hu:x.at up=some u)(hk:u.ks=a++b)(hi:a.length=i)(hp:x.at p=some y)(hs:∀ j∈p,j<=1048576) :
  ∃ y',(T.setAt (u.kids (a++m::b)) x up).at (zbs p (up++[(i:Int)]))=some y'/\y'.data=y.data/\((∀ r,up≠p++r)->y'=y):=by
 unfold zbs
 rcases zan up p with ⟨j,r,rfl⟩ | hn
 ·rw[zcZ,zcU];have hj1:j<=1048576:=hs j (by simp);rw[T.at_up hu] at hp;obtain⟨h0,h1,h2⟩:=T.at_of hp;rw[hk] at h1 h2;refine⟨y,?_,rfl,fun _=>rfl⟩
  by_cases hlt:j < i
  ·have e:(if j=(i:Int) then (if r=[] then (3:Int) else 2) else if (i:Int) < j then 1 else 0)=0:=by
    rw[if_neg (by omega),if_neg (by omega)]
   rw[if_pos e,T.at_on hu,T.at_go h0 (by rw[T.kids_ks,List.length_append,List.length_cons];rw[List.length_append] at h1;omega),T.kids_ks,zbb (by omega)];rw[zbb (by omega)] at h2;exact h2
  ·have e:(if j=(i:Int) then (if r=[] then (3:Int) else 2) else if (i:Int) < j then 1 else 0)≠0:=by
    by_cases hj:j=i
    ·rw[if_pos hj];split <;> decide
    ·rw[if_neg hj,if_pos (by omega)];decide
   rw[if_neg e,zcQ up r (by omega) (by omega),T.at_on hu,T.at_go (by omega) (by rw[T.kids_ks,List.length_append,List.length_cons];rw[List.length_append] at h1;omega),T.kids_ks];rw[zbc (by omega)] at h2 ⊢;have:(j+1).toNat - a.length=(j.toNat - a.length)+1:=by omega
   rw[this];exact h2
 ·rw[zcY hn,if_pos rfl];exact T.at_not hu hp hn (fun _=>rfl)
theorem T.pos_cut{x u k y:T}{up p:List Int}{i:Nat}{a b:List T}(hu:x.at up=some u)(hk:u.ks=a++k::b)(hi:a.length=i)(hp:x.at p=some y)(hs:∀ j∈p,j<=1048576)(h3:zcX (up++[(i:Int)]) p≠3)(h2:zcX (up++[(i:Int)]) p≠2) :
  ∃ y',(T.setAt (u.kids (a++b)) x up).at (if zcX (up++[(i:Int)]) p=1 then zcP p up.length (-1) else p)=some y'/\y'.data=y.data/\((∀ r,up≠p++r)->y'=y):=by
 rcases zan up p with ⟨j,r,rfl⟩ | hn
 ·rw[zcZ] at h3 h2 ⊢;have hj1:j<=1048576:=hs j (by simp)
  have hji:¬ j=(i:Int):=fun e=>by
   rw[if_pos e] at h3 h2
   split at h3
   ·exact h3 rfl
   ·rename_i hr
    rw[if_neg hr] at h2;exact h2 rfl
  rw[T.at_up hu] at hp;obtain⟨h0,h1,h4⟩:=T.at_of hp;rw[hk] at h1 h4;rw[List.length_append,List.length_cons] at h1;refine⟨y,?_,rfl,fun _=>rfl⟩;rw[if_neg hji]
  by_cases hlt:(i:Int) < j
  ·rw[if_pos hlt,if_pos rfl,zcQ up r (by omega) (by omega),T.at_on hu,T.at_go (by omega) (by rw[T.kids_ks,List.length_append];omega),T.kids_ks];rw[zbc (by omega)] at h4 ⊢;have:j.toNat - a.length=((j + -1).toNat - a.length)+1:=by omega
   rw[this] at h4;exact h4
  ·rw[if_neg hlt,if_neg (by decide),T.at_on hu,T.at_go h0 (by rw[T.kids_ks,List.length_append];omega),T.kids_ks];rw[zbb (by omega)] at h4 ⊢;exact h4
 ·rw[zcY hn,if_neg (by decide)];exact T.at_not hu hp hn (fun _=>rfl)
theorem stands_in{up p:List Int}{i:Int}(h:zcX (up++[i]) p=3\/zcX (up++[i]) p=2):∃ r,p=up++i::r/\(zcX (up++[i]) p=3 ↔ r=[]):=by
 rcases zan up p with ⟨j,r,rfl⟩ | hn
 ·rw[zcZ] at h ⊢
  by_cases hj:j=i
  ·subst hj;refine⟨r,rfl,?_⟩;rw[if_pos rfl]
   by_cases hr:r=[]
   ·simp[hr]
   ·simp[hr]
  ·rw[if_neg hj] at h
   split at h <;> omega
 ·rw[zcY hn] at h;omega
theorem smallL_iff{l:List Int}:zcS l=true ↔ ∀ j∈l,0<=j/\j<=1048576:=by
 unfold zcS;rw[idxOf_any]
 constructor
 ·intro h j hj;have h':l.any badN=false:=by simpa using h
  rw[List.any_eq_false] at h';exact badN_bound (by simpa using h' j hj)
 ·intro h
  have:l.any badN=false:=by
   rw[List.any_eq_false];intro j hj;have:=h j hj;unfold badN;simp only[Bool.or_eq_true,decide_eq_true_eq];omega
  rw[this];rfl
def inF(k c:Int):Prop:=∃ fs,hasL k=some fs/\c∈fs
theorem form_iff{o:OpE}:zba o=0 ↔ (∃ fs,hasL o.kind=some fs)/\(o.path≠[]->inF o.kind 112)/\(o.dest≠[]->inF o.kind 116)/\(o.pos≠0->inF o.kind 97)/\(o.node≠T.zero->inF o.kind 110)/\(o.old≠[]->inF o.kind 111)/\(o.new≠[]->inF o.kind 119)/\(o.text≠[]->inF o.kind 120)/\(zcK o.src SelE.nil=false->inF o.kind 115)/\(zcK o.dst SelE.nil=false->inF o.kind 115):=by
 unfold zba inF
 cases hf:hasL o.kind with
 | none=>simp
 | some fs =>
  simp only[Option.some.injEq,exists_eq_left']
  have hall:((setE o).all (fun c=>decide (c∈fs))=true) ↔ ∀ c∈setE o,c∈fs:=by
   rw[List.all_eq_true];simp
  have hmem:(∀ c∈setE o,c∈fs) ↔ ∀ x∈za6 o,x.2=true->x.1∈fs:=by
   unfold setE setOf
   constructor
   ·intro h x hx h2;exact h x.1 (List.mem_map.2 ⟨x,List.mem_filter.2 ⟨hx,h2⟩,rfl⟩)
   ·intro h c hc;obtain⟨x,hx,rfl⟩:=List.mem_map.1 hc;obtain⟨h1,h2⟩:=List.mem_filter.1 hx;exact h x h1 h2
  have hp:∀ {α:Type} (l:List α),0 < l.length ↔ l≠[]:=fun l=>by cases l <;> simp
  have key:(∀ x∈za6 o,x.2=true->x.1∈fs) ↔ ((o.path≠[]->112∈fs)/\(o.dest≠[]->116∈fs)/\(o.pos≠0->97∈fs)/\(o.node≠T.zero->110∈fs)/\(o.old≠[]->111∈fs)/\(o.new≠[]->119∈fs)/\(o.text≠[]->120∈fs)/\(zcK o.src SelE.nil=false->115∈fs)/\(zcK o.dst SelE.nil=false->115∈fs)):=by
   unfold za6;simp only[List.forall_mem_cons,decide_eq_true_eq,hp,List.not_mem_nil,false_implies,implies_true,and_true,Bool.not_eq_true']
  split
  ·rename_i h
   rw[hall,hmem,key] at h;exact⟨fun _=>⟨⟨fs,rfl⟩,h⟩,fun _=>rfl⟩
  ·rename_i h
   rw[hall,hmem,key] at h;exact⟨fun h'=>(by cases h'),fun h'=>absurd h'.2 h⟩
theorem inF_iff{k c:Int}:inF k c ↔ ((k=1\/k=2)/\(c=112\/c=110))\/(k=3/\(c=112\/c=97\/c=111))\/(k=4/\(c=112\/c=97\/c=119))\/(k=5/\(c=112\/c=116))\/(k=6/\(c=112\/c=111\/c=119))\/((k=7\/k=8)/\(c=112\/c=97\/c=120))\/(k=9/\c=115):=by
 unfold inF hasL
 by_cases h1:k=1
 ·subst h1;simp
 by_cases h2:k=2
 ·subst h2;simp
 by_cases h3:k=3
 ·subst h3;simp
 by_cases h4:k=4
 ·subst h4;simp
 by_cases h5:k=5
 ·subst h5;simp
 by_cases h6:k=6
 ·subst h6;simp
 by_cases h7:k=7
 ·subst h7;simp
 by_cases h8:k=8
 ·subst h8;simp
 by_cases h9:k=9
 ·subst h9;simp
 simp[h1,h2,h3,h4,h5,h6,h7,h8,h9]
theorem nil_of_not{α:Type}{l:List α}{P:Prop}(h:l≠[]->P)(hn:¬ P):l=[]:=Classical.byContradiction fun e=>hn (h e)
theorem form_dest{o:OpE}(hf:zba o=0)(h:o.kind≠5):o.dest=[]:=by
 obtain⟨_,f1,f2,_⟩:=form_iff.1 hf;exact nil_of_not f2 (by rw[inF_iff];omega)
theorem form_path9{o:OpE}(hf:zba o=0)(h:o.kind=9):o.path=[]:=by
 obtain⟨_,f1,f2,_⟩:=form_iff.1 hf;exact nil_of_not f1 (by rw[inF_iff];omega)
structure Undo (o b:OpE):Prop where
 inv:invT o=(b,0)
 back:invT b=(o,0)
 form:zba b=0
 kind:b.kind=zda o.kind
 pos:b.pos=o.pos
 node:b.node=o.node
 old:b.old=o.new
 new:b.new=o.old
 text:b.text=o.text
 src:b.src=o.dst
 dst:b.dst=o.src
theorem T.tsm(a:Bool)(b:List zab)(c:List Int)(d:List T):(T.mk a b c d).ts=c:=rfl
theorem two_there{w W:World}{tA tB:TypeId}(hW:(w.alloc (.cells NT.nil.cells4.toArray tA)).alloc (.cells SelL.nil.cells.toArray tB)=W):W.there w.heap.size 0 4/\W.there (w.heap.size+1) 0 5:=by
 obtain⟨_,_,t1,_,t2,_⟩:=zar w NT.nil.cells4 SelL.nil.cells tA tB W hW;exact⟨t1,t2⟩
def XB(b:Nat)(x:NT)(t:SelL)(wz:World):Prop:=wz.rangeAt b 0 x.cells4/\wz.rangeAt (b+1) 0 t.cells/\b+2<=wz.heap.size
theorem XB.grew{b:Nat}{wz w':World}{x:NT}{t:SelL}(h:XB b x t wz)(g:Grew wz w'):XB b x t w':=by
 obtain⟨h1,h2,h3⟩:=h;exact⟨zcj h1 g (by omega),zcj h2 g (by omega),Nat.le_trans h3 g.size⟩
theorem XB.x{b:Nat}{wz:World}{n:NT}{t:SelL}(h:XB b n t wz):wz.cell? ⟨b,0,none⟩=some (.bool n.lf)/\wz.cell? ⟨b,1,none⟩=some (.slice n.pa n.ps.length n.pc)/\wz.cell? ⟨b,2,none⟩=some (.slice n.ta n.ts.length n.tc)/\wz.cell? ⟨b,3,none⟩=some (.slice n.ka n.ks.length n.kc):=by
 have h:=NT.cells4_at.1 h.1;unfold NodeAt at h;simp only[Nat.zero_add] at h;exact h
theorem XB.t{b:Nat}{wz:World}{n:NT}{s:SelL}(h:XB b n s wz):wz.cell? ⟨b+1,0,none⟩=some (.bool s.is)/\wz.cell? ⟨b+1,1,none⟩=some (.slice s.a.p.a s.a.p.l.length s.a.p.c)/\wz.cell? ⟨b+1,2,none⟩=some (.int .i64 s.a.o)/\wz.cell? ⟨b+1,3,none⟩=some (.slice s.f.p.a s.f.p.l.length s.f.p.c)/\wz.cell? ⟨b+1,4,none⟩=some (.int .i64 s.f.o) :=
 ⟨zci h.2.1 (j:=0) rfl,zci h.2.1 (j:=1) rfl,zci h.2.1 (j:=2) rfl,zci h.2.1 (j:=3) rfl,zci h.2.1 (j:=4) rfl⟩
theorem put2_new{w W wa wb:World}{x:NT}{t:SelL}{tA tB:TypeId}(hW:(w.alloc (.cells NT.nil.cells4.toArray tA)).alloc (.cells SelL.nil.cells.toArray tB)=W)(ha:W.setCells w.heap.size 0 x.cells4=wa)(hb:wa.setCells (w.heap.size+1) 0 t.cells=wb):Grew w wb/\XB w.heap.size x t wb:=by
 obtain⟨g1,_,t1,_,t2,z1⟩:=zar w NT.nil.cells4 SelL.nil.cells tA tB W hW;have k1:Keeps (·=w.heap.size) W wa:=by rw[<- ha];exact zcM _ x.cells4 0 W
 have k2:Keeps (·=w.heap.size+1) wa wb:=by rw[<- hb];exact zcM _ t.cells 0 wa
 have r1:wa.rangeAt w.heap.size 0 x.cells4:=by rw[<- ha];exact zcm t1
 have r2:wb.rangeAt (w.heap.size+1) 0 t.cells:=by rw[<- hb];exact zcm (by rw[<- ha];exact World.there_setCells t2 _ _ _)
 have s1:=k1.size;have s2:=k2.size;exact⟨(g1.keep k1 (fun j hj=>by have:j=w.heap.size:=hj;omega)).keep k2 (fun j hj=>by have:j=w.heap.size+1:=hj;omega),zck r1 k2 (by omega) (by show ¬ (_=_);omega),r2,by omega⟩
def zbz:Obj:=.map #[{ key:=.int .i64 1,val:=.agg #[.int .i64 0,.func (.func 95) #[] #[],.func (.func 96) #[] #[]],born:=0 },{ key:=.int .i64 2,val:=.agg #[.int .i64 2,.func (.func 97) #[] #[],.func (.func 98) #[] #[]],born:=1 },{ key:=.int .i64 3,val:=.agg #[.int .i64 4,.func (.func 99) #[] #[],.func (.func 100) #[] #[]],born:=2 }] 3
theorem zbA(w:World):Calls Tryz.prog 47 #[] w fun e w'=>e=.returned (.map (some w.heap.size))/\w'=w.alloc zbz:=by
 have hmm:=@run_makeMap Tryz.prog;have h1:=zcF (P:=Tryz.prog) (w.alloc (.map #[] 0)) 89 3 87 w.heap.size 0 #[] 1 (.agg #[.int .i64 0,.func (.func 95) #[] #[],.func (.func 96) #[] #[]]) Tryz.underlying89 Tryz.underlying3 (heap_alloc_new w _) rfl;rw[zah] at h1;have h2:=zcF (P:=Tryz.prog) (w.alloc (.map #[{ key:=.int .i64 1,val:=.agg #[.int .i64 0,.func (.func 95) #[] #[],.func (.func 96) #[] #[]],born:=0 }] 1)) 89 3 87 w.heap.size 1 #[{ key:=.int .i64 1,val:=.agg #[.int .i64 0,.func (.func 95) #[] #[],.func (.func 96) #[] #[]],born:=0 }] 2 (.agg #[.int .i64 2,.func (.func 97) #[] #[],.func (.func 98) #[] #[]]) Tryz.underlying89 Tryz.underlying3 (heap_alloc_new w _) rfl;rw[zah] at h2;have h3:=zcF (P:=Tryz.prog) (w.alloc (.map #[{ key:=.int .i64 1,val:=.agg #[.int .i64 0,.func (.func 95) #[] #[],.func (.func 96) #[] #[]],born:=0 },{ key:=.int .i64 2,val:=.agg #[.int .i64 2,.func (.func 97) #[] #[],.func (.func 98) #[] #[]],born:=1 }] 2)) 89 3 87 w.heap.size 2 #[{ key:=.int .i64 1,val:=.agg #[.int .i64 0,.func (.func 95) #[] #[],.func (.func 96) #[] #[]],born:=0 },{ key:=.int .i64 2,val:=.agg #[.int .i64 2,.func (.func 97) #[] #[],.func (.func 98) #[] #[]],born:=1 }] 3 (.agg #[.int .i64 4,.func (.func 99) #[] #[],.func (.func 100) #[] #[]]) Tryz.underlying89 Tryz.underlying3 (heap_alloc_new w _) rfl;rw[zah] at h3
 go_enter Tryz.func47,Tryz.ntmps47
 go_wp2_with fail
 go_ret
 exact⟨rfl,rfl⟩
theorem zcG{w:World}{b:Nat}(hb:w.heap[b]? = some zbz)(k:Int):(Instr.lookup 89 (.map (some b)) (.int .i64 k) true).run Tryz.prog w =
  .ok (.tuple (if k=1 then #[.agg #[.int .i64 0,.func (.func 95) #[] #[],.func (.func 96) #[] #[]],.bool true] else if k=2 then #[.agg #[.int .i64 2,.func (.func 97) #[] #[],.func (.func 98) #[] #[]],.bool true] else if k=3 then #[.agg #[.int .i64 4,.func (.func 99) #[] #[],.func (.func 100) #[] #[]],.bool true] else #[.agg #[.int .i64 0,.nilFunc,.nilFunc],.bool false])) w:=by
 have hc:∀ e,(Instr.checkKey e 10000 3 (.int .i64 k)).run Tryz.prog w=.ok () w:=fun e=>MapKept.run_checkKey (k:=.int .i64 k) Tryz.underlying3 (by simp[MapKept.IsKey]) e 9999;have hf:∀ a,Instr.findNow (.int .i64) (.int .i64 k) [{ key:=.int .i64 1,val:=.agg #[.int .i64 0,.func (.func 95) #[] #[],.func (.func 96) #[] #[]],born:=0 },{ key:=.int .i64 2,val:=.agg #[.int .i64 2,.func (.func 97) #[] #[],.func (.func 98) #[] #[]],born:=1 },{ key:=.int .i64 3,val:=.agg #[.int .i64 4,.func (.func 99) #[] #[],.func (.func 100) #[] #[]],born:=2 }] 0=some a->(Instr.findKey 3 (.int .i64 k) [{ key:=.int .i64 1,val:=.agg #[.int .i64 0,.func (.func 95) #[] #[],.func (.func 96) #[] #[]],born:=0 },{ key:=.int .i64 2,val:=.agg #[.int .i64 2,.func (.func 97) #[] #[],.func (.func 98) #[] #[]],born:=1 },{ key:=.int .i64 3,val:=.agg #[.int .i64 4,.func (.func 99) #[] #[],.func (.func 100) #[] #[]],born:=2 }]).run Tryz.prog w=.ok a w:=fun a h=>MapKept.run_findKey Tryz.underlying3 h;have hg:=MapKept.run_getObj_map (P:=Tryz.prog) (w:=w) (r:=b) (es:=#[{ key:=.int .i64 1,val:=.agg #[.int .i64 0,.func (.func 95) #[] #[],.func (.func 96) #[] #[]],born:=0 },{ key:=.int .i64 2,val:=.agg #[.int .i64 2,.func (.func 97) #[] #[],.func (.func 98) #[] #[]],born:=1 },{ key:=.int .i64 3,val:=.agg #[.int .i64 4,.func (.func 99) #[] #[],.func (.func 100) #[] #[]],born:=2 }]) (clock:=3) hb;have hz:=Tryz.zeroValue87 w
 by_cases h1:k=1
 ·subst h1;have:=hf _ rfl
  simp[Instr.lookup,run_underlying Tryz.underlying89,hg,hc,this,Result.andThen]
 ·by_cases h2:k=2
  ·subst h2;have:=hf _ rfl
   simp[Instr.lookup,run_underlying Tryz.underlying89,hg,hc,this,Result.andThen]
  ·by_cases h3:k=3
   ·subst h3;have:=hf _ rfl
    simp[Instr.lookup,run_underlying Tryz.underlying89,hg,hc,this,Result.andThen]
   ·have:=hf none (by
     have q1:(k == 1)=false:=by simpa using h1
     have q2:(k == 2)=false:=by simpa using h2
     have q3:(k == 3)=false:=by simpa using h3
     simp[Instr.findNow,Instr.sameNow,q1,q2,q3])
    simp[Instr.lookup,run_underlying Tryz.underlying89,hg,hc,this,Result.andThen,h1,h2,h3,hz]
end Go.Proofs.YtccobobnmpafbaaGreatDoor
