/- LABELLED TREES: plain. A ghost is a tree of its own: no properties, its text its label and then its runes' labels. -/
import Derived.Test.YtccobobnmpafbaaGreatDoorK34
import Derived.Test.YtccobobnmpafbaaGreatDoorK37
import Derived.Test.YtccobobnmpafbaaGreatDoorK33
import Derived.Test.YtccobobnmpafbaaGreatDoorK26
namespace Go.Proofs.YtccobobnmpafbaaGreatDoor
open Go Go.RowKit
mutual
/-- a tree labelled,from a number on -/
def gh:T->Int->T
 | .mk _ _ ts ks,f=>.mk false [] (f::(List.range ts.length).map (fun i:Nat=>f+1+(i:Int))) (ghs ks (f+1+ts.length))
def ghs:List T->Int->List T
 | [],_=>[]
 | k::r,f=>gh k f::ghs r (f+k.size)
end
mutual
/-- all labels taken away -/
def fgt:T->T
 | .mk _ _ ts ks=>.mk false [] (ts.map fun _=>-2) (fgts ks)
def fgts:List T->List T
 | []=>[]
 | k::r=>fgt k::fgts r
end
mutual
/-- a ghost stands as a tree does -/
def like:T->T->Prop
 | .mk lf _ gs gk,n=>lf=false/\gs.length=n.ts.length+1/\likes gk n.ks
def likes:List T->List T->Prop
 | [],l=>l=[]
 | g::r,l=>∃ k l',l=k::l'/\like g k/\likes r l'
end
theorem like_iff{g n:T}:like g n ↔ g.lf=false/\g.ts.length=n.ts.length+1/\likes g.ks n.ks:=by cases g;rfl
theorem likes_cons{g k:T}{r l:List T}:likes (g::r) (k::l) ↔ like g k/\likes r l:=by
 rw[likes]
 constructor
 ·rintro⟨k',l',e,h1,h2⟩;injection e with e1 e2
  subst e1 e2;exact⟨h1,h2⟩
 ·rintro⟨h1,h2⟩;exact⟨k,l,rfl,h1,h2⟩
theorem zbC:∀ {a b:List T},likes a b->a.length=b.length
 | [],b,h=>by rw[likes] at h;rw[h]
 | g::r,b,h=>by
  rw[likes] at h;obtain⟨k,l,rfl,_,h2⟩:=h;rw[List.length_cons,List.length_cons,zbC h2]
theorem likes_app:∀ {a b c d:List T},likes a b->likes c d->likes (a++c) (b++d)
 | [],b,c,d,h,h'=>by rw[likes] at h;rw[h];exact h'
 | g::r,b,c,d,h,h'=>by
  rw[likes] at h;obtain⟨k,l,rfl,h1,h2⟩:=h;exact likes_cons.2 ⟨h1,likes_app h2 h'⟩
theorem zbD:∀ {L a b:List T},likes L (a++b)->∃ c d,L=c++d/\c.length=a.length/\likes c a/\likes d b
 | L,[],b,h=>⟨[],L,rfl,rfl,rfl,h⟩
 | [],x::a,b,h=>by rw[likes] at h;cases h
 | g::L,x::a,b,h=>by
  rw[List.cons_append,likes_cons] at h;obtain⟨c,d,rfl,h1,h2,h3⟩:=zbD h.2;exact⟨g::c,d,rfl,by simp[h1],likes_cons.2 ⟨h.1,h2⟩,h3⟩
theorem likes_getD:∀ {L M:List T} (i:Nat),likes L M->i < M.length->like (L.getD i default) (M.getD i default)
 | [],M,i,h,hi=>by rw[likes] at h;rw[h] at hi;exact absurd hi (Nat.not_lt_zero _)
 | g::L,M,0,h,hi=>by
  rw[likes] at h;obtain⟨k,l,rfl,h1,_⟩:=h;exact h1
 | g::L,M,i+1,h,hi=>by
  rw[likes] at h;obtain⟨k,l,rfl,_,h2⟩:=h;simp only[List.getD_cons_succ];exact likes_getD i h2 (by simpa using hi)
theorem likes_set:∀ {L M:List T} (i:Nat) {x y:T},likes L M->like x y->likes (L.set i x) (M.set i y)
 | [],M,i,x,y,h,_=>by rw[likes] at h;rw[h];exact rfl
 | g::L,M,0,x,y,h,h'=>by
  rw[likes] at h;obtain⟨k,l,rfl,_,h2⟩:=h;exact likes_cons.2 ⟨h',h2⟩
 | g::L,M,i+1,x,y,h,h'=>by
  rw[likes] at h;obtain⟨k,l,rfl,h1,h2⟩:=h;exact likes_cons.2 ⟨h1,likes_set i h2 h'⟩
theorem like_at{k:T}:∀ {p:List Int} {g n:T},like g n->n.at p=some k->∃ h,g.at p=some h/\like h k:=by
 intro p
 induction p with
 | nil=>intro g n h e;injection e with e;subst e;exact⟨g,rfl,h⟩
 | cons i r ih =>
  intro g n h e;obtain⟨h0,h1,h2⟩:=T.at_of e;have hl:=like_iff.1 h;have hlen:=zbC hl.2.2;obtain⟨x,hx,hxk⟩:=ih (likes_getD i.toNat hl.2.2 (by omega)) h2;exact⟨x,by rw[T.at_go h0 (by omega)];exact hx,hxk⟩
theorem like_set{h' k' k:T}(hh:like h' k'):∀ {p:List Int} {g n:T},like g n->n.at p=some k->like (T.setAt h' g p) (T.setAt k' n p):=by
 intro p
 induction p with
 | nil=>intro g n _ _;exact hh
 | cons i r ih =>
  intro g n h e;obtain⟨h0,h1,h2⟩:=T.at_of e;have hl:=like_iff.1 h;have:=ih (likes_getD i.toNat hl.2.2 (by omega)) h2;exact like_iff.2 ⟨hl.1,hl.2.1,likes_set i.toNat hl.2.2 this⟩
theorem like_kids{g n:T}{L M:List T}(h:like g n)(hL:likes L M):like (g.kids L) (n.kids M):=by
 have:=like_iff.1 h;exact like_iff.2 ⟨this.1,this.2.1,hL⟩
theorem like_lf{g n:T}(h:like g n):g.lf=false:=(like_iff.1 h).1
theorem like_ts{g n:T}(h:like g n):∃ l r,g.ts=l::r/\r.length=n.ts.length:=by
 have:=(like_iff.1 h).2.1
 cases hg:g.ts with
 | nil=>rw[hg] at this;simp at this
 | cons l r=>rw[hg] at this;exact⟨l,r,rfl,by simpa using this⟩
theorem gh_like(n:T):∀ f,like (gh n f) n:=by
 induction n using T.ind with
 | h n ih =>
  intro f;obtain⟨lf,ps,ts,ks⟩:=n;rw[gh];refine⟨rfl,by simp,?_⟩
  have:∀(l:List T) (f:Int),(∀ k∈l,∀ f,like (gh k f) k)->likes (ghs l f) l:=by
   intro l
   induction l with
   | nil=>intro f _;rfl
   | cons k r ihl =>
    intro f h;rw[ghs];exact likes_cons.2 ⟨h k (by simp) f,ihl _ (fun x hx=>h x (by simp[hx]))⟩
  exact this ks _ ih
def T.gjoin(x k:T):T:=.mk false [] (x.ts++k.ts.tail) (x.ks++k.ks)
def T.gfirst(k:T)(pos:Nat):T:=if pos<=k.ts.length - 1/\k.ks=[] then .mk false [] (k.ts.take (pos+1)) k.ks else .mk false [] k.ts (k.ks.take pos)
def T.gsecond(k:T)(pos:Nat):T:=if pos<=k.ts.length - 1/\k.ks=[] then .mk false [] (-2::k.ts.drop (pos+1)) [] else .mk false [] [-2] (k.ks.drop pos)
def doG(o:OpE)(g:T):T :=
 if o.kind=1 then (addT g o.path (fgt (gh o.node 0))).1
 else if o.kind=2 then (cutT g o.path).1
 else if o.kind=3 then (match (cutT g o.path).1.at (zam o.path).1 with
  | none=>(cutT g o.path).1
  | some x=>T.setAt (x.gjoin (cutT g o.path).2.1) (cutT g o.path).1 (zam o.path).1)
 else if o.kind=4 then (match g.at o.path with
  | none=>g
  | some k=>(addT (T.setAt (k.gfirst o.pos.toNat) g o.path) (zbR o.path).1 (k.gsecond o.pos.toNat)).1)
 else if o.kind=5 then (addT (cutT g o.path).1 o.dest (cutT g o.path).2.1).1
 else if o.kind=7 then (match g.at o.path with
  | none=>g
  | some k=>T.setAt (.mk false [] (k.ts.take (o.pos.toNat+1)++List.replicate o.text.length (-2)++k.ts.drop (o.pos.toNat+1)) k.ks) g o.path)
 else if o.kind=8 then (match g.at o.path with
  | none=>g
  | some k=>T.setAt (.mk false [] (k.ts.take (o.pos.toNat+1)++k.ts.drop (o.pos.toNat+1+o.text.length)) k.ks) g o.path)
 else g
theorem ghost1{n g u:T}{o:OpE}{up:List Int}{i:Nat}{a b:List T}(hk:o.kind=1)(hg:like g n)(e1:o.path=up++[(i:Int)])(e2:n.at up=some u)(e3:u.ks=a++b)(e4:a.length=i) :
  ∃(v:T) (c d:List T),g.at up=some v/\like v u/\v.ks=c++d/\c.length=i/\likes c a/\likes d b/\doG o g=T.setAt (v.kids (c++fgt (gh o.node 0)::d)) g up:=by
 obtain⟨v,hv,hvu⟩:=like_at hg e2;have hl:=like_iff.1 hvu;rw[e3] at hl;obtain⟨c,d,h1,h2,h3,h4⟩:=zbD hl.2.2;refine⟨v,c,d,hv,hvu,h1,by omega,h3,h4,?_⟩;unfold doG;rw[if_pos hk,e1,add_at hv hl.1 h1 (by omega)]
theorem ghostcut{n g u k:T}{up:List Int}{i:Nat}{a b:List T}(hg:like g n)(e2:n.at up=some u)(e3:u.ks=a++k::b)(e4:a.length=i) :
  ∃(v h:T) (c d:List T),g.at up=some v/\like v u/\v.ks=c++h::d/\c.length=i/\likes c a/\like h k/\likes d b/\cutT g (up++[(i:Int)])=(T.setAt (v.kids (c++d)) g up,h,0):=by
 obtain⟨v,hv,hvu⟩:=like_at hg e2;have hl:=like_iff.1 hvu;rw[e3] at hl;obtain⟨c,d,h1,h2,h3,h4⟩:=zbD hl.2.2
 cases d with
 | nil=>rw[likes] at h4;cases h4
 | cons h d =>
  rw[likes_cons] at h4;exact⟨v,h,c,d,hv,hvu,h1,by omega,h3,h4.1,h4.2,cut_at hv h1 (by omega)⟩
theorem ghost3{n g u x k:T}{o:OpE}{up:List Int}{i:Nat}{a b:List T}(hk:o.kind=3)(hg:like g n)(e1:o.path=up++[((i+1:Nat):Int)])(e2:n.at up=some u)(e3:u.ks=a++x::k::b)(e4:a.length=i)(hi:i < 4611686018427387) :
  ∃(v hx hk:T) (c d:List T),g.at up=some v/\like v u/\v.ks=c++hx::hk::d/\c.length=i/\likes c a/\like hx x/\like hk k/\likes d b/\doG o g=T.setAt (v.kids (c++hx.gjoin hk::d)) g up:=by
 obtain⟨v,h,c',d,hv,hvu,h1,h2,h3,h4,h5,h6⟩:=ghostcut (i:=i+1) hg e2 (a:=a++[x]) (b:=b) (k:=k) (by rw[e3];simp) (by simp;omega);obtain⟨c,d',h7,h8,h9,h10⟩:=zbD h3
 cases d' with
 | nil=>rw[likes] at h10;cases h10
 | cons hx d' =>
  rw[likes_cons] at h10;obtain⟨h11,h12⟩:=h10;have hd':d'=[]:=List.eq_nil_of_length_eq_zero (by have:=zbC h12;simpa using this);subst hd';subst h7;refine⟨v,hx,h,c,d,hv,hvu,by rw[h1];simp,by omega,h9,h11,h4,h5,?_⟩;unfold doG;rw[if_neg (by omega),if_neg (by omega),if_pos hk,e1,h6,back_at (by omega)]
  have hat:(T.setAt (v.kids (c++[hx]++d)) g up).at (up++[(i:Int)])=some hx:=by
   rw[T.at_on hv];have hci:c.length=i:=by omega
   rw[<- hci];exact T.at_kid (by rw[T.kids_ks,List.append_assoc];rfl)
  simp only[hat];rw[T.setAt_append (T.at_setAt hv),T.setAt_setAt hv]
  have hset:T.setAt (hx.gjoin h) (v.kids (c++[hx]++d)) [(i:Int)]=v.kids (c++hx.gjoin h::d):=by
   rw[T.setAt,T.setAt,T.kids_ks,Int.toNat_natCast];have hci:c.length=i:=by omega
   rw[<- hci]
   have:(c++[hx]++d).set c.length (hx.gjoin h)=c++hx.gjoin h::d:=by
    rw[List.append_assoc,List.set_append_right _ _ zQ1,Nat.sub_self];rfl
   rw[this];rfl
  rw[hset]
theorem ghost4{n g u k:T}{o:OpE}{up:List Int}{i:Nat}{a b:List T}(hk:o.kind=4)(hg:like g n)(e1:o.path=up++[(i:Int)])(e2:n.at up=some u)(e3:u.ks=a++k::b)(e4:a.length=i)(hi:i < 4611686018427387) :
  ∃(v h:T) (c d:List T),g.at up=some v/\like v u/\v.ks=c++h::d/\c.length=i/\likes c a/\like h k/\likes d b/\doG o g=T.setAt (v.kids (c++h.gfirst o.pos.toNat::h.gsecond o.pos.toNat::d)) g up:=by
 obtain⟨v,h,c,d,hv,hvu,h1,h2,h3,h4,h5,_⟩:=ghostcut hg e2 e3 e4;refine⟨v,h,c,d,hv,hvu,h1,h2,h3,h4,h5,?_⟩;unfold doG;rw[if_neg (by omega),if_neg (by omega),if_neg (by omega),if_pos hk,e1,T.at_the_kid hv h1 h2];simp only;rw[T.setAt_kid hv h1 h2,next_at (by omega)];have hadd:=add_at (m:=h.gsecond o.pos.toNat) (a:=c++[h.gfirst o.pos.toNat]) (b:=d) (i:=i+1) (T.at_setAt (y':=v.kids (c++h.gfirst o.pos.toNat::d)) hv) (show v.lf=false from like_lf hvu) (by rw[T.kids_ks];simp) (by simp;omega);rw[T.kids_kids,T.setAt_setAt hv] at hadd;rw[hadd]
 simp
theorem ghost5{n g u v k r:T}{o:OpE}{up vp:List Int}{i j:Nat}{a b c d:List T}(hk:o.kind=5)(hg:like g n)(e1:o.path=up++[(i:Int)])(e2:n.at up=some u)(e3:u.ks=a++k::b)(e4:a.length=i)(er:r=T.setAt (u.kids (a++b)) n up)(f1:o.dest=vp++[(j:Int)])(f2:r.at vp=some v)(f4:v.ks=c++d)(f5:c.length=j) :
  ∃(gu h gr gv:T) (a' b' c' d':List T),g.at up=some gu/\like gu u/\gu.ks=a'++h::b'/\a'.length=i/\like h k/\gr=T.setAt (gu.kids (a'++b')) g up/\like gr r/\gr.at vp=some gv/\like gv v/\gv.ks=c'++d'/\c'.length=j/\likes c' c/\likes d' d/\doG o g=T.setAt (gv.kids (c'++h::d')) gr vp:=by
 obtain⟨gu,h,a',b',hv,hvu,h1,h2,h3,h4,h5,h6⟩:=ghostcut hg e2 e3 e4
 have hr:like (T.setAt (gu.kids (a'++b')) g up) r:=by
  rw[er];exact like_set (like_kids hvu (likes_app h3 h5)) hg e2
 obtain⟨gv,hgv,hgvl⟩:=like_at hr f2;have hl:=like_iff.1 hgvl;rw[f4] at hl;obtain⟨c',d',h7,h8,h9,h10⟩:=zbD hl.2.2;refine⟨gu,h,_,gv,a',b',c',d',hv,hvu,h1,h2,h4,rfl,hr,hgv,hgvl,h7,by omega,h9,h10,?_⟩;unfold doG;rw[if_neg (by omega),if_neg (by omega),if_neg (by omega),if_neg (by omega),if_pos hk,e1,h6,f1]
 show (addT _ (vp++[(j:Int)]) h).1=_
 rw[add_at hgv hl.1 h7 (by omega)]
theorem ghost7{n g k:T}{o:OpE}(hk:o.kind=7)(hg:like g n)(e1:n.at o.path=some k):∃ h,g.at o.path=some h/\like h k/\doG o g=T.setAt (.mk false [] (h.ts.take (o.pos.toNat+1)++List.replicate o.text.length (-2)++h.ts.drop (o.pos.toNat+1)) h.ks) g o.path:=by
 obtain⟨h,hh,hl⟩:=like_at hg e1;refine⟨h,hh,hl,?_⟩;unfold doG;rw[if_neg (by omega),if_neg (by omega),if_neg (by omega),if_neg (by omega),if_neg (by omega),if_pos hk,hh]
theorem ghost8{n g k:T}{o:OpE}(hk:o.kind=8)(hg:like g n)(e1:n.at o.path=some k):∃ h,g.at o.path=some h/\like h k/\doG o g=T.setAt (.mk false [] (h.ts.take (o.pos.toNat+1)++h.ts.drop (o.pos.toNat+1+o.text.length)) h.ks) g o.path:=by
 obtain⟨h,hh,hl⟩:=like_at hg e1;refine⟨h,hh,hl,?_⟩;unfold doG;rw[if_neg (by omega),if_neg (by omega),if_neg (by omega),if_neg (by omega),if_neg (by omega),if_neg (by omega),if_pos hk,hh]
theorem doG_own{g:T}{o:OpE}(hk:o.kind=6\/o.kind=9):doG o g=g:=by
 unfold doG;rw[if_neg (by omega),if_neg (by omega),if_neg (by omega),if_neg (by omega),if_neg (by omega),if_neg (by omega),if_neg (by omega)]
theorem T.bulkAll_put(k:T):∀(l:List T) (i:Nat),i < l.length->T.bulkAll (l.set i k)+(l.getD i default).bulk=T.bulkAll l+k.bulk
 | [],_,h=>absurd h (Nat.not_lt_zero _)
 | x::r,0,_=>by simp only[List.set_cons_zero,T.bulkAll,List.getD_cons_zero];omega
 | x::r,i+1,h=>by
  have:=T.bulkAll_put k r i (by simpa using h);simp only[List.set_cons_succ,T.bulkAll,List.getD_cons_succ];omega
theorem T.bulk_atSet{y y':T}:∀ {p:List Int} {t:T},t.at p=some y->(T.setAt y' t p).bulk+y.bulk=t.bulk+y'.bulk:=by
 intro p
 induction p with
 | nil =>
  intro t h;injection h with h
  subst h
  show y'.bulk+_=_
  omega
 | cons i r ih =>
  intro t h;rw[T.at] at h
  split at h
  ·cases h
  ·rename_i hn
   have h1:=ih h;have h2:=T.bulkAll_put (T.setAt y' (t.ks.getD i.toNat default) r) t.ks i.toNat (by omega);rw[T.setAt,T.bulk,T.bulk_eq t];omega
theorem T.bulk_kids(u:T)(l:List T):(u.kids l).bulk+T.bulkAll u.ks=u.bulk+T.bulkAll l:=by
 rw[T.kids,T.bulk,T.bulk_eq u];omega
theorem T.bulk_split(k:T)(i:Nat)(new:List zab):(k.first i).bulk+(k.second i new).bulk<=k.bulk+1+zcb new:=by
 have h1:T.bulkAll (k.ks.take i)+T.bulkAll (k.ks.drop i)=T.bulkAll k.ks:=by rw[<- T.bulkAll_append,List.take_append_drop]
 have h2:(k.ts.take i).length+(k.ts.drop i).length=k.ts.length:=by rw[<- List.length_append,List.take_append_drop]
 unfold T.first T.second;rw[T.bulk_eq k]
 split
 ·simp only[T.bulk,T.bulkAll];omega
 ·simp only[T.bulk,List.length_nil];omega
theorem shaped_bulk{n:T}{o:OpE}{m:Nat}(hb:n.bulk<=262144)(hm1:o.node.bulk<=m)(hm2:zcb o.new<=m)(hm3:o.text.length<=m)(hf:zba o=0)(h9:o.kind≠9)(hs:(zcN n o).2=0):(zcN n o).1.bulk<=2 * n.bulk+m+1:=by
 have hkk:=form_kind hf
 rcases (show o.kind=1\/o.kind=2\/o.kind=3\/o.kind=4\/o.kind=5\/(o.kind=6\/o.kind=7\/o.kind=8) by omega) with h1 | h1 | h1 | h1 | h1 | h1
 ·obtain⟨up,i,u,a,b,_,e2,_,e3,_,_,e8⟩:=done1 hf h1 hs;have h2:=T.bulk_atSet (y':=u.kids (a++o.node::b)) e2;have h3:=T.bulk_kids u (a++o.node::b);rw[e3,T.bulkAll_append,T.bulkAll_append,T.bulkAll] at h3;rw[e8];omega
 ·obtain⟨up,i,u,a,b,_,e2,e3,_,e8⟩:=done2 hf h1 hs;have h2:=T.bulk_atSet (y':=u.kids (a++b)) e2;have h3:=T.bulk_kids u (a++b);rw[e3,T.bulkAll_append,T.bulkAll_append,T.bulkAll] at h3;rw[e8];omega
 ·obtain⟨up,i,u,x,k,a,b,_,e2,e3,_,e5,_,_,e8⟩:=done3 (by omega) hf h1 hs;have h2:=T.bulk_atSet (y':=u.kids (a++x.join k::b)) e2;have h3:=T.bulk_kids u (a++x.join k::b)
  have h4:(x.join k).bulk<=x.bulk+k.bulk:=by
   unfold T.join;rw[T.bulk,T.bulk_eq x,T.bulk_eq k,T.bulkAll_append,List.length_append];omega
  rw[e3,T.bulkAll_append,T.bulkAll_append,T.bulkAll,T.bulkAll,T.bulkAll] at h3;rw[e8];omega
 ·obtain⟨up,i,u,k,a,b,_,e2,_,e3,_,_,_,_,e8⟩:=done4 hf h1 hs;have h2:=T.bulk_atSet (y':=u.kids (a++k.first o.pos.toNat::k.second o.pos.toNat o.new::b)) e2;have h3:=T.bulk_kids u (a++k.first o.pos.toNat::k.second o.pos.toNat o.new::b);have h4:=T.bulk_split k o.pos.toNat o.new;rw[e3,T.bulkAll_append,T.bulkAll_append,T.bulkAll,T.bulkAll,T.bulkAll] at h3;rw[e8];omega
 ·obtain⟨up,vp,i,j,u,v,k,r,a,b,c,d,_,e2,e3,_,er,_,f2,_,f4,_,e8⟩:=done5 hf h1 hs;have h2:=T.bulk_atSet (y':=u.kids (a++b)) e2;have h3:=T.bulk_kids u (a++b);rw[e3,T.bulkAll_append,T.bulkAll_append,T.bulkAll] at h3;rw[<- er] at h2;have h4:=T.bulk_atSet (y':=v.kids (c++k::d)) f2;have h5:=T.bulk_kids v (c++k::d);rw[f4,T.bulkAll_append,T.bulkAll_append,T.bulkAll] at h5;rw[e8];omega
 ·obtain⟨k,k',e1,e2,e3⟩:=done6 hf h1 hs;have h2:=T.bulk_atSet (y':=k') e1;have hk:=zat e1;rw[T.bulk_eq k] at h2
  rcases e3 with ⟨_,_,hpt,rfl⟩ | ⟨_,_,hi,rfl⟩ | ⟨_,_,hi,rfl⟩
  ·have h3:zcb (zb6 k.ps o.old o.new).1<=zcb k.ps+zcb o.new:=by
    obtain⟨_,h0,_⟩:=patchT_chk hpt
    have hR:IsSort (zb6 k.ps o.old o.new).1 (zbL k.ps o.old++o.new):=by
     unfold zb6;rw[if_pos h0];exact Classical.epsilon_spec (p:=fun R=>IsSort R (zbL k.ps o.old++o.new)) (isSort_ex _ (zb7 h0))
    exact patch_bulk (.inr ⟨h0,hR⟩)
   rw[T.bulk] at h2;rw[e2];omega
  ·obtain⟨_,_,_,_,h5⟩:=insert_ok hi;have h6:=congrArg Prod.fst h5;simp only at h6;rw[h6] at e2;rw[h6,T.bulk] at h2;simp only[List.length_append,List.length_take,List.length_drop] at h2;rw[e2];omega
  ·obtain⟨_,_,_,h5⟩:=remove_ok hi;have h6:=congrArg Prod.fst h5;simp only at h6;rw[h6] at e2;rw[h6,T.bulk] at h2;simp only[List.length_append,List.length_take,List.length_drop] at h2;rw[e2];omega
theorem apply_bulk2{n:T}{s:SelE}{o:OpE}{m:Nat}(hb:n.bulk<=262144)(hm1:o.node.bulk<=m)(hm2:zcb o.new<=m)(hm3:o.text.length<=m):(zai n s o).1.bulk<=2 * n.bulk+m+1:=by
 by_cases h:(zai n s o).2.2=0
 ·obtain⟨hm,h⟩:=apply_ok h;obtain⟨_,_,_,hf⟩:=may_ok hm
  rcases h with ⟨_,_,_,he⟩ | ⟨h9,hs,_,he⟩
  ·rw[he];show n.bulk<=_;omega
  ·rw[he];exact shaped_bulk hb hm1 hm2 hm3 hf h9 hs
 ·rw[(apply_no h).1];have:T.nilT.bulk=1:=by decide
  omega
theorem apply_bulk{n:T}{s:SelE}{o:OpE}(hb:n.bulk<=262144)(ht:o.Tiny):(zai n s o).1.bulk<=1048576:=by
 obtain⟨_,⟨_,h2⟩,h3,h4⟩:=ht;have:=apply_bulk2 (s:=s) (o:=o) hb h4 h2 h3;omega
end Go.Proofs.YtccobobnmpafbaaGreatDoor
