/- LABELLED TREES: plain. A ghost is a tree of its own: no properties, its text its label and then its runes' labels. -/
import Derived.Test.YtbhbekocmpmjfaaGreatDoorK34
import Derived.Test.YtbhbekocmpmjfaaGreatDoorK06
import Derived.Test.YtbhbekocmpmjfaaGreatDoorK16
import Derived.Test.YtbhbekocmpmjfaaGreatDoorK05
namespace Go.Proofs.YtbhbekocmpmjfaaGreatDoor
open Go Go.RowKit
mutual
/-- a tree labelled,from a number on -/
def gh:T→Int→T
 | .mk _ _ ts ks,f=>.mk false [] (f::(List.range ts.length).map (fun i:Nat=>f+1+(i:Int))) (ghs ks (f+1+ts.length))
def ghs:List T→Int→List T
 | [],_=>[]
 | k::r,f=>gh k f::ghs r (f+k.size)
end
mutual
/-- all labels taken away -/
def fgt:T→T
 | .mk _ _ ts ks=>.mk false [] (ts.map fun _=>-2) (fgts ks)
def fgts:List T→List T
 | []=>[]
 | k::r=>fgt k::fgts r
end
mutual
/-- a ghost stands as a tree does -/
def like:T→T→Prop
 | .mk lf _ gs gk,n=>lf=false∧gs.length=n.ts.length+1∧likes gk n.ks
def likes:List T→List T→Prop
 | [],l=>l=[]
 | g::r,l=>∃ k l',l=k::l'∧like g k∧likes r l'
end
theorem like_iff {g n:T}:like g n ↔ g.lf=false∧g.ts.length=n.ts.length+1∧likes g.ks n.ks:=by cases g;rfl
theorem likes_cons {g k:T} {r l:List T}:likes (g::r) (k::l) ↔ like g k∧likes r l:=by
 rw [likes]
 constructor
 ·rintro ⟨k',l',e,h1,h2⟩;injection e with e1 e2
  subst e1 e2;exact ⟨h1,h2⟩
 ·rintro ⟨h1,h2⟩;exact ⟨k,l,rfl,h1,h2⟩
theorem zbF:∀ {a b:List T},likes a b→a.length=b.length
 | [],b,h=>by rw [likes] at h;rw [h]
 | g::r,b,h=>by
  rw [likes] at h;obtain ⟨k,l,rfl,_,h2⟩:=h;rw [List.length_cons,List.length_cons,zbF h2]
theorem zbD:∀ {a b c d:List T},likes a b→likes c d→likes (a++c) (b++d)
 | [],b,c,d,h,h'=>by rw [likes] at h;rw [h];exact h'
 | g::r,b,c,d,h,h'=>by
  rw [likes] at h;obtain ⟨k,l,rfl,h1,h2⟩:=h;exact likes_cons.2 ⟨h1,zbD h2 h'⟩
theorem zbG:∀ {L a b:List T},likes L (a++b)→∃ c d,L=c++d∧c.length=a.length∧likes c a∧likes d b
 | L,[],b,h=>⟨[],L,rfl,rfl,rfl,h⟩
 | [],x::a,b,h=>by rw [likes] at h;cases h
 | g::L,x::a,b,h=>by
  rw [List.cons_append,likes_cons] at h;obtain ⟨c,d,rfl,h1,h2,h3⟩:=zbG h.2;exact ⟨g::c,d,rfl,by simp [h1],likes_cons.2 ⟨h.1,h2⟩,h3⟩
theorem likes_getD:∀ {L M:List T} (i:Nat),likes L M→i < M.length→like (L.getD i default) (M.getD i default)
 | [],M,i,h,hi=>by rw [likes] at h;rw [h] at hi;exact absurd hi (Nat.not_lt_zero _)
 | g::L,M,0,h,hi=>by
  rw [likes] at h;obtain ⟨k,l,rfl,h1,_⟩:=h;exact h1
 | g::L,M,i+1,h,hi=>by
  rw [likes] at h;obtain ⟨k,l,rfl,_,h2⟩:=h;simp only [List.getD_cons_succ];exact likes_getD i h2 (by simpa using hi)
theorem likes_set:∀ {L M:List T} (i:Nat) {x y:T},likes L M→like x y→likes (L.set i x) (M.set i y)
 | [],M,i,x,y,h,_=>by rw [likes] at h;rw [h];exact rfl
 | g::L,M,0,x,y,h,h'=>by
  rw [likes] at h;obtain ⟨k,l,rfl,_,h2⟩:=h;exact likes_cons.2 ⟨h',h2⟩
 | g::L,M,i+1,x,y,h,h'=>by
  rw [likes] at h;obtain ⟨k,l,rfl,h1,h2⟩:=h;exact likes_cons.2 ⟨h1,likes_set i h2 h'⟩
theorem like_at {k:T}:∀ {p:List Int} {g n:T},like g n→n.at p=some k→∃ h,g.at p=some h∧like h k:=by
 intro p
 induction p with
 | nil=>intro g n h e;injection e with e;subst e;exact ⟨g,rfl,h⟩
 | cons i r ih =>
  intro g n h e;obtain ⟨h0,h1,h2⟩:=T.at_of e;have hl:=like_iff.1 h;have hlen:=zbF hl.2.2;obtain ⟨x,hx,hxk⟩:=ih (likes_getD i.toNat hl.2.2 (by omega)) h2;exact ⟨x,by rw [T.at_go h0 (by omega)];exact hx,hxk⟩
theorem zbC {h' k' k:T} (hh:like h' k'):∀ {p:List Int} {g n:T},like g n→n.at p=some k→like (T.setAt h' g p) (T.setAt k' n p):=by
 intro p
 induction p with
 | nil=>intro g n _ _;exact hh
 | cons i r ih =>
  intro g n h e;obtain ⟨h0,h1,h2⟩:=T.at_of e;have hl:=like_iff.1 h;have:=ih (likes_getD i.toNat hl.2.2 (by omega)) h2;exact like_iff.2 ⟨hl.1,hl.2.1,likes_set i.toNat hl.2.2 this⟩
theorem like_kids {g n:T} {L M:List T} (h:like g n) (hL:likes L M):like (g.kids L) (n.kids M):=by
 have:=like_iff.1 h;exact like_iff.2 ⟨this.1,this.2.1,hL⟩
theorem like_lf {g n:T} (h:like g n):g.lf=false:=(like_iff.1 h).1
theorem like_ts {g n:T} (h:like g n):∃ l r,g.ts=l::r∧r.length=n.ts.length:=by
 have:=(like_iff.1 h).2.1
 cases hg:g.ts with
 | nil=>rw [hg] at this;simp at this
 | cons l r=>rw [hg] at this;exact ⟨l,r,rfl,by simpa using this⟩
theorem gh_like (n:T):∀ f,like (gh n f) n:=by
 induction n using T.ind with
 | h n ih =>
  intro f;obtain ⟨lf,ps,ts,ks⟩:=n;rw [gh];refine ⟨rfl,by simp,?_⟩
  have:∀ (l:List T) (f:Int),(∀ k∈l,∀ f,like (gh k f) k)→likes (ghs l f) l:=by
   intro l
   induction l with
   | nil=>intro f _;rfl
   | cons k r ihl =>
    intro f h;rw [ghs];exact likes_cons.2 ⟨h k (by simp) f,ihl _ (fun x hx=>h x (by simp [hx]))⟩
  exact this ks _ ih
theorem fgt_like (g:T):∀ n,like g n→like (fgt g) n:=by
 induction g using T.ind with
 | h g ih =>
  intro n h;obtain ⟨lf,ps,ts,ks⟩:=g;have hl:=like_iff.1 h;rw [fgt];refine like_iff.2 ⟨rfl,by simpa using hl.2.1,?_⟩
  have:∀ (l m:List T),(∀ k∈l,∀ n,like k n→like (fgt k) n)→likes l m→likes (fgts l) m:=by
   intro l
   induction l with
   | nil=>intro m _ h;exact h
   | cons k r ihl =>
    intro m h hm;rw [likes] at hm;obtain ⟨x,l',rfl,h1,h2⟩:=hm;rw [fgts];exact likes_cons.2 ⟨h k (by simp) x h1,ihl l' (fun y hy=>h y (by simp [hy])) h2⟩
  exact this ks n.ks ih hl.2.2
def T.gjoin (x k:T):T:=.mk false [] (x.ts++k.ts.tail) (x.ks++k.ks)
def T.gfirst (k:T) (pos:Nat):T:=if pos≤k.ts.length - 1∧k.ks=[] then .mk false [] (k.ts.take (pos+1)) k.ks else .mk false [] k.ts (k.ks.take pos)
def T.gsecond (k:T) (pos:Nat):T:=if pos≤k.ts.length - 1∧k.ks=[] then .mk false [] (-2::k.ts.drop (pos+1)) [] else .mk false [] [-2] (k.ks.drop pos)
def doG (o:OpE) (g:T):T :=
 if o.kind=1 then (addT g o.path (fgt (gh o.node 0))).1
 else if o.kind=2 then (cutT g o.path).1
 else if o.kind=3 then (match (cutT g o.path).1.at (zap o.path).1 with
  | none=>(cutT g o.path).1
  | some x=>T.setAt (x.gjoin (cutT g o.path).2.1) (cutT g o.path).1 (zap o.path).1)
 else if o.kind=4 then (match g.at o.path with
  | none=>g
  | some k=>(addT (T.setAt (k.gfirst o.pos.toNat) g o.path) (zbQ o.path).1 (k.gsecond o.pos.toNat)).1)
 else if o.kind=5 then (addT (cutT g o.path).1 o.dest (cutT g o.path).2.1).1
 else if o.kind=7 then (match g.at o.path with
  | none=>g
  | some k=>T.setAt (.mk false [] (k.ts.take (o.pos.toNat+1)++List.replicate o.text.length (-2)++k.ts.drop (o.pos.toNat+1)) k.ks) g o.path)
 else if o.kind=8 then (match g.at o.path with
  | none=>g
  | some k=>T.setAt (.mk false [] (k.ts.take (o.pos.toNat+1)++k.ts.drop (o.pos.toNat+1+o.text.length)) k.ks) g o.path)
 else g
theorem ghost1 {n g u:T} {o:OpE} {up:List Int} {i:Nat} {a b:List T} (hk:o.kind=1) (hg:like g n) (e1:o.path=up++[(i:Int)]) (e2:n.at up=some u) (e3:u.ks=a++b) (e4:a.length=i) :
  ∃ (v:T) (c d:List T),g.at up=some v∧like v u∧v.ks=c++d∧c.length=i∧likes c a∧likes d b∧doG o g=T.setAt (v.kids (c++fgt (gh o.node 0)::d)) g up:=by
 obtain ⟨v,hv,hvu⟩:=like_at hg e2;have hl:=like_iff.1 hvu;rw [e3] at hl;obtain ⟨c,d,h1,h2,h3,h4⟩:=zbG hl.2.2;refine ⟨v,c,d,hv,hvu,h1,by omega,h3,h4,?_⟩;unfold doG;rw [if_pos hk,e1,add_at hv hl.1 h1 (by omega)]
theorem ghostcut {n g u k:T} {up:List Int} {i:Nat} {a b:List T} (hg:like g n) (e2:n.at up=some u) (e3:u.ks=a++k::b) (e4:a.length=i) :
  ∃ (v h:T) (c d:List T),g.at up=some v∧like v u∧v.ks=c++h::d∧c.length=i∧likes c a∧like h k∧likes d b∧cutT g (up++[(i:Int)])=(T.setAt (v.kids (c++d)) g up,h,0):=by
 obtain ⟨v,hv,hvu⟩:=like_at hg e2;have hl:=like_iff.1 hvu;rw [e3] at hl;obtain ⟨c,d,h1,h2,h3,h4⟩:=zbG hl.2.2
 cases d with
 | nil=>rw [likes] at h4;cases h4
 | cons h d =>
  rw [likes_cons] at h4;exact ⟨v,h,c,d,hv,hvu,h1,by omega,h3,h4.1,h4.2,cut_at hv h1 (by omega)⟩
theorem like_join {x k hx hk:T} (h1:like hx x) (h2:like hk k):like (hx.gjoin hk) (x.join k):=by
 have a1:=like_iff.1 h1;have a2:=like_iff.1 h2;refine like_iff.2 ⟨rfl,?_,zbD a1.2.2 a2.2.2⟩
 show (hx.ts++hk.ts.tail).length=(x.ts++k.ts).length+1
 rw [List.length_append,List.length_append,List.length_tail];omega
theorem ghost3 {n g u x k:T} {o:OpE} {up:List Int} {i:Nat} {a b:List T} (hk:o.kind=3) (hg:like g n) (e1:o.path=up++[((i+1:Nat):Int)]) (e2:n.at up=some u) (e3:u.ks=a++x::k::b) (e4:a.length=i) (hi:i < 4611686018427387) :
  ∃ (v hx hk:T) (c d:List T),g.at up=some v∧like v u∧v.ks=c++hx::hk::d∧c.length=i∧likes c a∧like hx x∧like hk k∧likes d b∧doG o g=T.setAt (v.kids (c++hx.gjoin hk::d)) g up:=by
 obtain ⟨v,h,c',d,hv,hvu,h1,h2,h3,h4,h5,h6⟩:=ghostcut (i:=i+1) hg e2 (a:=a++[x]) (b:=b) (k:=k) (by rw [e3];simp) (by simp;omega);obtain ⟨c,d',h7,h8,h9,h10⟩:=zbG h3
 cases d' with
 | nil=>rw [likes] at h10;cases h10
 | cons hx d' =>
  rw [likes_cons] at h10;obtain ⟨h11,h12⟩:=h10;have hd':d'=[]:=List.eq_nil_of_length_eq_zero (by have:=zbF h12;simpa using this);subst hd';subst h7;refine ⟨v,hx,h,c,d,hv,hvu,by rw [h1];simp,by omega,h9,h11,h4,h5,?_⟩;unfold doG;rw [if_neg (by omega),if_neg (by omega),if_pos hk,e1,h6,back_at (by omega)]
  have hat:(T.setAt (v.kids (c++[hx]++d)) g up).at (up++[(i:Int)])=some hx:=by
   rw [T.at_on hv];have hci:c.length=i:=by omega
   rw [← hci];exact T.at_kid (by rw [T.kids_ks,List.append_assoc];rfl)
  simp only [hat];rw [T.setAt_append (T.at_setAt hv),T.setAt_setAt hv]
  have hset:T.setAt (hx.gjoin h) (v.kids (c++[hx]++d)) [(i:Int)]=v.kids (c++hx.gjoin h::d):=by
   rw [T.setAt,T.setAt,T.kids_ks,Int.toNat_natCast];have hci:c.length=i:=by omega
   rw [← hci]
   have:(c++[hx]++d).set c.length (hx.gjoin h)=c++hx.gjoin h::d:=by
    rw [List.append_assoc,List.set_append_right _ _ zQ1,Nat.sub_self];rfl
   rw [this];rfl
  rw [hset]
theorem ghost4 {n g u k:T} {o:OpE} {up:List Int} {i:Nat} {a b:List T} (hk:o.kind=4) (hg:like g n) (e1:o.path=up++[(i:Int)]) (e2:n.at up=some u) (e3:u.ks=a++k::b) (e4:a.length=i) (hi:i < 4611686018427387) :
  ∃ (v h:T) (c d:List T),g.at up=some v∧like v u∧v.ks=c++h::d∧c.length=i∧likes c a∧like h k∧likes d b∧doG o g=T.setAt (v.kids (c++h.gfirst o.pos.toNat::h.gsecond o.pos.toNat::d)) g up:=by
 obtain ⟨v,h,c,d,hv,hvu,h1,h2,h3,h4,h5,_⟩:=ghostcut hg e2 e3 e4;refine ⟨v,h,c,d,hv,hvu,h1,h2,h3,h4,h5,?_⟩;unfold doG;rw [if_neg (by omega),if_neg (by omega),if_neg (by omega),if_pos hk,e1,T.at_the_kid hv h1 h2];simp only;rw [T.setAt_kid hv h1 h2,next_at (by omega)];have hadd:=add_at (m:=h.gsecond o.pos.toNat) (a:=c++[h.gfirst o.pos.toNat]) (b:=d) (i:=i+1) (T.at_setAt (y':=v.kids (c++h.gfirst o.pos.toNat::d)) hv) (show v.lf=false from like_lf hvu) (by rw [T.kids_ks];simp) (by simp;omega);rw [T.kids_kids,T.setAt_setAt hv] at hadd;rw [hadd]
 simp
theorem ghost5 {n g u v k r:T} {o:OpE} {up vp:List Int} {i j:Nat} {a b c d:List T} (hk:o.kind=5) (hg:like g n) (e1:o.path=up++[(i:Int)]) (e2:n.at up=some u) (e3:u.ks=a++k::b) (e4:a.length=i) (er:r=T.setAt (u.kids (a++b)) n up)
  (f1:o.dest=vp++[(j:Int)]) (f2:r.at vp=some v) (f4:v.ks=c++d) (f5:c.length=j) :
  ∃ (gu h gr gv:T) (a' b' c' d':List T),g.at up=some gu∧like gu u∧gu.ks=a'++h::b'∧a'.length=i∧like h k∧gr=T.setAt (gu.kids (a'++b')) g up∧like gr r∧gr.at vp=some gv∧like gv v∧gv.ks=c'++d'∧c'.length=j∧likes c' c∧likes d' d∧doG o g=T.setAt (gv.kids (c'++h::d')) gr vp:=by
 obtain ⟨gu,h,a',b',hv,hvu,h1,h2,h3,h4,h5,h6⟩:=ghostcut hg e2 e3 e4
 have hr:like (T.setAt (gu.kids (a'++b')) g up) r:=by
  rw [er];exact zbC (like_kids hvu (zbD h3 h5)) hg e2
 obtain ⟨gv,hgv,hgvl⟩:=like_at hr f2;have hl:=like_iff.1 hgvl;rw [f4] at hl;obtain ⟨c',d',h7,h8,h9,h10⟩:=zbG hl.2.2;refine ⟨gu,h,_,gv,a',b',c',d',hv,hvu,h1,h2,h4,rfl,hr,hgv,hgvl,h7,by omega,h9,h10,?_⟩;unfold doG;rw [if_neg (by omega),if_neg (by omega),if_neg (by omega),if_neg (by omega),if_pos hk,e1,h6,f1]
 show (addT _ (vp++[(j:Int)]) h).1=_
 rw [add_at hgv hl.1 h7 (by omega)]
theorem ghost7 {n g k:T} {o:OpE} (hk:o.kind=7) (hg:like g n) (e1:n.at o.path=some k):∃ h,g.at o.path=some h∧like h k∧doG o g=T.setAt (.mk false [] (h.ts.take (o.pos.toNat+1)++List.replicate o.text.length (-2)++h.ts.drop (o.pos.toNat+1)) h.ks) g o.path:=by
 obtain ⟨h,hh,hl⟩:=like_at hg e1;refine ⟨h,hh,hl,?_⟩;unfold doG;rw [if_neg (by omega),if_neg (by omega),if_neg (by omega),if_neg (by omega),if_neg (by omega),if_pos hk,hh]
theorem ghost8 {n g k:T} {o:OpE} (hk:o.kind=8) (hg:like g n) (e1:n.at o.path=some k):∃ h,g.at o.path=some h∧like h k∧doG o g=T.setAt (.mk false [] (h.ts.take (o.pos.toNat+1)++h.ts.drop (o.pos.toNat+1+o.text.length)) h.ks) g o.path:=by
 obtain ⟨h,hh,hl⟩:=like_at hg e1;refine ⟨h,hh,hl,?_⟩;unfold doG;rw [if_neg (by omega),if_neg (by omega),if_neg (by omega),if_neg (by omega),if_neg (by omega),if_neg (by omega),if_pos hk,hh]
theorem doG_own {g:T} {o:OpE} (hk:o.kind=6∨o.kind=9):doG o g=g:=by
 unfold doG;rw [if_neg (by omega),if_neg (by omega),if_neg (by omega),if_neg (by omega),if_neg (by omega),if_neg (by omega),if_neg (by omega)]
theorem doG_like {n g:T} {s:SelE} {o:OpE} (hb:n.bulk≤4611686018427387) (hg:like g n) (h:(zak n s o).2.2=0) (h4:o.kind≠4):like (doG o g) (zak n s o).1:=by
 obtain ⟨hm,h⟩:=zal h;obtain ⟨hc,hl,_,hf⟩:=may_ok hm
 rcases h with ⟨h9,_,_,he⟩ | ⟨h9,hs,_,he⟩
 ·rw [he,doG_own (.inr h9)];exact hg
 ·have hkk:=zbe hf;rw [he]
  show like _ (zcO n o).1
  rcases (show o.kind=1∨o.kind=2∨o.kind=3∨o.kind=5∨o.kind=6∨o.kind=7∨o.kind=8 by omega) with h1 | h1 | h1 | h1 | h1 | h1 | h1
  ·obtain ⟨up,i,u,a,b,e1,e2,_,e3,e4,_,e8⟩:=done1 hf h1 hs;obtain ⟨v,c,d,g1,g2,g3,g4,g5,g6,g7⟩:=ghost1 h1 hg e1 e2 e3 e4;rw [g7,e8];exact zbC (like_kids g2 (zbD g5 (likes_cons.2 ⟨fgt_like _ _ (gh_like _ _),g6⟩))) hg e2
  ·obtain ⟨up,i,u,a,b,e1,e2,e3,e4,e8⟩:=done2 hf h1 hs;obtain ⟨v,h,c,d,g1,g2,g3,g4,g5,g6,g7,g8⟩:=ghostcut hg e2 e3 e4
   have:doG o g=T.setAt (v.kids (c++d)) g up:=by
    unfold doG;rw [if_neg (by omega),if_pos h1,e1,g8]
   rw [this,e8];exact zbC (like_kids g2 (zbD g5 g7)) hg e2
  ·obtain ⟨up,i,u,x,k,a,b,e1,e2,e3,e4,_,_,_,e8⟩:=done3 (by omega) hf h1 hs
   obtain ⟨v,hx,hk,c,d,g1,g2,g3,g4,g5,g6,g7,g8,g9⟩:=ghost3 h1 hg e1 e2 e3 e4 (by
    have h1:=zav e2;have h2:=u.ks_bulk;rw [e3,List.length_append] at h2
    omega)
   rw [g9,e8];exact zbC (like_kids g2 (zbD g5 (likes_cons.2 ⟨like_join g6 g7,g8⟩))) hg e2
  ·obtain ⟨up,vp,i,j,u,v,k,r,a,b,c,d,e1,e2,e3,e4,er,f1,f2,f3,f4,f5,e8⟩:=done5 hf h1 hs;obtain ⟨gu,h,gr,gv,a',b',c',d',g1,g2,g3,g4,g5,g6,g7,g8,g9,g10,g11,g12,g13,g14⟩:=ghost5 h1 hg e1 e2 e3 e4 er f1 f2 f4 f5;rw [g14,e8];exact zbC (like_kids g9 (zbD g12 (likes_cons.2 ⟨g5,g13⟩))) g7 f2
  ·obtain ⟨k,k',e1,e2,e3⟩:=done6 hf (.inl h1) hs;rw [doG_own (.inl h1),e2];obtain ⟨h,hh,hhl⟩:=like_at hg e1
   have:=zbC (h':=h) (k':=k') (by
    rcases e3 with ⟨_,_,_,rfl⟩ | ⟨h,_⟩ | ⟨h,_⟩
    ·have:=like_iff.1 hhl;exact like_iff.2 this
    ·omega
    ·omega) hg e1
   rw [T.setAt_same hh] at this;exact this
  ·obtain ⟨k,k',e1,e2,e3⟩:=done6 hf (.inr (.inl h1)) hs;obtain ⟨h,hh,hhl,hd⟩:=ghost7 h1 hg e1;rw [hd,e2];refine zbC ?_ hg e1;have hl':=like_iff.1 hhl
   rcases e3 with ⟨h,_⟩ | ⟨_,_,hi,rfl⟩ | ⟨h,_⟩
   ·omega
   ·obtain ⟨h0,h1',_,_,h5⟩:=insert_ok hi;rw [h5];refine like_iff.2 ⟨rfl,?_,hl'.2.2⟩;simp only [T.ts_mk,List.length_append,List.length_take,List.length_drop,List.length_replicate];omega
   ·omega
  ·obtain ⟨k,k',e1,e2,e3⟩:=done6 hf (.inr (.inr h1)) hs;obtain ⟨h,hh,hhl,hd⟩:=ghost8 h1 hg e1;rw [hd,e2];refine zbC ?_ hg e1;have hl':=like_iff.1 hhl
   rcases e3 with ⟨h,_⟩ | ⟨h,_⟩ | ⟨_,_,hi,rfl⟩
   ·omega
   ·omega
   ·obtain ⟨h0,h1',_,h5⟩:=zcr hi;rw [h5];refine like_iff.2 ⟨rfl,?_,hl'.2.2⟩;simp only [T.ts_mk,List.length_append,List.length_take,List.length_drop];omega
def ptrV (k:NT):Value:=.pointer (some ⟨k.pc,0,none⟩)
def NT.gcells (x:NT):List Value:=[.int .i64 (x.ts.headD 0),.slice x.ta x.ts.tail.length x.tc,.slice x.ka x.ks.length x.kc]
def NT.runesV (x:NT):Value:=.slice x.ta x.ts.tail.length x.tc
def NT.kidsV (x:NT):Value:=.slice x.ka x.ks.length x.kc
structure NT.GOwn (w:World) (x:NT):Prop where
 cells:w.rangeAt x.pc 0 x.gcells
 there:w.there x.pc 0 3
 runes:w.ownsRow 0 3 1 x.runesV x.ts.tail.length (x.ts.tail.map (Value.int .i64))
 kids:w.ownsRow 0 43 1 x.kidsV x.ks.length (x.ks.map ptrV)
 hts:x.ts≠[]
 lf:x.lf=false
 ps:x.ps=[]
inductive NT.G (w:World):NT→Prop
 | mk (x:NT) (own:x.GOwn w) (all:∀ k∈x.ks,NT.G w k):NT.G w x
theorem NT.G.own {w:World} {x:NT} (h:x.G w):x.GOwn w:=by cases h;assumption
theorem NT.G.all {w:World} {x:NT} (h:x.G w):∀ k∈x.ks,k.G w:=by cases h;assumption
def ownL (v:Value):List Nat:=match v.ownBlock with
 | some b=>[b]
 | none=>[]
theorem mem_ownL {v:Value} {b:Nat}:b∈ownL v ↔ zbY v b:=by
 unfold ownL zbY
 cases v.ownBlock with
 | none=>simp
 | some c =>
  simp only [List.mem_singleton,Option.some.injEq];exact ⟨fun h=>h.symm,fun h=>h.symm⟩
def NT.ob (x:NT):List Nat:=x.pc::(ownL x.runesV++ownL x.kidsV)
mutual
/-- the blocks of a tree of ghosts -/
def NT.gb:NT→List Nat
 | .mk lf pa pc ps ta tc ts ka kc ks=>(NT.mk lf pa pc ps ta tc ts ka kc ks).ob++NT.gbs ks
def NT.gbs:List NT→List Nat
 | []=>[]
 | k::r=>NT.gb k++NT.gbs r
end
theorem NT.gb_eq (x:NT):x.gb=x.ob++NT.gbs x.ks:=by cases x;rw [NT.gb];rfl
theorem NT.gbs_app (a b:List NT):NT.gbs (a++b)=NT.gbs a++NT.gbs b:=by
 induction a with
 | nil=>rfl
 | cons k r ih=>rw [List.cons_append,NT.gbs,NT.gbs,ih,List.append_assoc]
theorem NT.mem_gbs {l:List NT} {k:NT} (hk:k∈l) {b:Nat} (hb:b∈k.gb):b∈NT.gbs l:=by
 induction l with
 | nil=>cases hk
 | cons x r ih =>
  rw [NT.gbs]
  rcases List.mem_cons.1 hk with rfl | hk
  ·exact List.mem_append_left _ hb
  ·exact List.mem_append_right _ (ih hk)
theorem zb8 {S:Nat→Prop} {w w':World} {B k n:Nat} {t:TypeId} {v:Value} {xs:List Value} (h:w.ownsRow B t k v n xs) (hk:Keeps S w w') (hd:∀ j,zbY v j→¬ S j):w'.ownsRow B t k v n xs:=by
 obtain ⟨h1,h2⟩:=h;refine ⟨h1,?_⟩
 rcases h2 with h2 | ⟨g,cap,cur,hv,hg2,hh,r⟩
 ·exact Or.inl h2
 ·have hlt:g < w.heap.size:=by
   rcases Nat.lt_or_ge g w.heap.size with h1 | h1
   ·exact h1
   ·rw [Array.getElem?_eq_none h1] at hh;cases hh
  exact Or.inr ⟨g,cap,cur,hv,hg2,(hk.block g hlt (hd g (by subst hv;rfl))).trans hh,r⟩
theorem there_keeps {w w':World} {O:Nat→Prop} {b o n:Nat} (h:w.there b o n) (hk:Keeps O w w') (hb:b < w.heap.size) (hO:¬ O b):w'.there b o n:=fun j hj=>by
 obtain ⟨q1,q2⟩:=h j hj;exact ⟨by rw [hk.cell (p:=⟨b,o+j,none⟩) hb hO];exact q1,by rw [hk.frozen (p:=⟨b,o+j,none⟩) hb hO];exact q2⟩
theorem NT.GOwn.keeps {O:Nat→Prop} {w w':World} {x:NT} (h:x.GOwn w) (hk:Keeps O w w') (hO:∀ b∈x.ob,¬ O b) (hlt:∀ b∈x.ob,b < w.heap.size):x.GOwn w':=by
 have hp:=hO x.pc (List.mem_cons_self ..);have hl:=hlt x.pc (List.mem_cons_self ..);refine ⟨zcn h.cells hk hl hp,there_keeps h.there hk hl hp,zb8 h.runes hk (fun j hj=>hO j ?_),zb8 h.kids hk (fun j hj=>hO j ?_),h.hts,h.lf,h.ps⟩
 ·exact List.mem_cons_of_mem _ (List.mem_append_left _ (mem_ownL.2 hj))
 ·exact List.mem_cons_of_mem _ (List.mem_append_right _ (mem_ownL.2 hj))
theorem NT.G.keeps {O:Nat→Prop} {w w':World} (hk:Keeps O w w'):∀ {x:NT},x.G w→(∀ b∈x.gb,¬ O b)→(∀ b∈x.gb,b < w.heap.size)→x.G w':=by
 intro x
 induction x using NT.ind with
 | h x ih =>
  intro h hO hlt;rw [NT.gb_eq] at hO hlt;refine ⟨x,h.own.keeps hk (fun b hb=>hO b (List.mem_append_left _ hb)) (fun b hb=>hlt b (List.mem_append_left _ hb)),fun k hk'=>ih k hk' (h.all k hk') (fun b hb=>hO b (List.mem_append_right _ (NT.mem_gbs hk' hb))) (fun b hb=>hlt b (List.mem_append_right _ (NT.mem_gbs hk' hb)))⟩
structure NT.GOk (w:World) (x:NT):Prop where
 g:x.G w
 nd:x.gb.Nodup
 lt:∀ b∈x.gb,b < w.heap.size
theorem NT.GOk.keeps {O:Nat→Prop} {w w':World} {x:NT} (h:x.GOk w) (hk:Keeps O w w') (hO:∀ b∈x.gb,¬ O b):x.GOk w':=⟨h.g.keeps hk hO h.lt,h.nd,fun b hb=>Nat.lt_of_lt_of_le (h.lt b hb) hk.size⟩
theorem NT.GOk.grew {w w':World} {x:NT} (h:x.GOk w) (hg:Grew w w'):x.GOk w':=h.keeps (O:=fun j=>w.heap.size≤j) (hg.keeps _) (fun b hb=>Nat.not_le.2 (h.lt b hb))
theorem NT.GOk.kid {w:World} {x k:NT} (h:x.GOk w) (hk:k∈x.ks):k.GOk w:=by
 have hs:k.gb.Sublist (NT.gbs x.ks):=by
  generalize x.ks=l at hk
  induction l with
  | nil=>cases hk
  | cons y r ih =>
   rw [NT.gbs]
   rcases List.mem_cons.1 hk with rfl | hk
   ·exact List.sublist_append_left _ _
   ·exact (ih hk).trans (List.sublist_append_right _ _)
 have hnd:=h.nd;rw [NT.gb_eq] at hnd;exact ⟨h.g.all k hk,(List.nodup_append.1 hnd).2.1.sublist hs,fun b hb=>h.lt b (by rw [NT.gb_eq];exact List.mem_append_right _ (hs.subset hb))⟩
theorem NT.gbs_get {l:List NT} {i:Nat} (hi:i < l.length):(NT.gbs l).Perm ((l.getD i default).gb++NT.gbs (l.eraseIdx i)):=by
 induction l generalizing i with
 | nil=>exact absurd hi (Nat.not_lt_zero _)
 | cons k r ih =>
  cases i with
  | zero=>exact List.Perm.refl _
  | succ i =>
   rw [List.getD_cons_succ,List.eraseIdx_cons_succ,NT.gbs,NT.gbs];refine ((ih (by simpa using hi)).append_left k.gb).trans ?_;rw [← List.append_assoc,← List.append_assoc];exact (List.perm_append_comm).append_right _
theorem NT.gbs_set {l:List NT} {i:Nat} (hi:i < l.length) (y:NT):(NT.gbs (l.set i y)).Perm (y.gb++NT.gbs (l.eraseIdx i)):=by
 have h:=NT.gbs_get (l:=l.set i y) (i:=i) (by rw [List.length_set];exact hi);have h1:(l.set i y).getD i default=y:=by simp [List.getD,hi]
 have h2:(l.set i y).eraseIdx i=l.eraseIdx i:=by rw [List.eraseIdx_set_eq]
 rw [h1,h2] at h;exact h
theorem NT.setAt_cons (y x:NT) (i:Int) (r:List Int):NT.setAt y x (i::r)=.mk x.lf x.pa x.pc x.ps x.ta x.tc x.ts x.ka x.kc (x.ks.set i.toNat (NT.setAt y (x.ks.getD i.toNat default) r)):=rfl
theorem NT.gb_split {t:T}:∀ {p:List Int} {x:NT},x.er.at p=some t→∃ rest,x.gb.Perm ((x.sub p).gb++rest)∧∀ y':NT,y'.pc=(x.sub p).pc→(NT.setAt y' x p).gb.Perm (y'.gb++rest)∧(NT.setAt y' x p).pc=x.pc:=by
 intro p
 induction p with
 | nil =>
  intro x _;exact ⟨[],by rw [List.append_nil];exact List.Perm.refl _,fun y' h=>⟨by rw [List.append_nil];exact List.Perm.refl _,h⟩⟩
 | cons i r ih =>
  intro x h;obtain ⟨h0,h1,h2⟩:=T.at_of h;rw [NT.er_ks,List.length_map] at h1;rw [NT.er_ks,← za2] at h2;obtain ⟨rest,hp,hy⟩:=ih h2;have hi:i.toNat < x.ks.length:=by omega
  have perm:∀ (a b c d:List Nat),(a++(b++c++d)).Perm (b++(a++(c++d))):=fun a b c d=>by
   rw [List.append_assoc b c d,← List.append_assoc a b,← List.append_assoc b a];exact (List.perm_append_comm).append_right _
  refine ⟨x.ob++(rest++NT.gbs (x.ks.eraseIdx i.toNat)),?_,fun y' hpc=>⟨?_,rfl⟩⟩
  ·rw [NT.gb_eq,NT.sub];refine (((NT.gbs_get hi).trans (hp.append_right _)).append_left x.ob).trans ?_;exact perm _ _ _ _
  ·obtain ⟨q1,q2⟩:=hy y' hpc;rw [NT.setAt_cons,NT.gb_eq]
   have hob:(NT.mk x.lf x.pa x.pc x.ps x.ta x.tc x.ts x.ka x.kc (x.ks.set i.toNat (NT.setAt y' (x.ks.getD i.toNat default) r))).ob=x.ob:=by
    unfold NT.ob NT.runesV NT.kidsV
    simp
   rw [hob];refine ((NT.gbs_set hi _).append_left x.ob).trans ?_;refine ((q1.append_right _).append_left x.ob).trans ?_;exact perm _ _ _ _
theorem NT.GOwn.setKid {w:World} {x:NT} (h:x.GOwn w) {i:Nat} {y:NT} (hpc:y.pc=(x.ks.getD i default).pc):(NT.mk x.lf x.pa x.pc x.ps x.ta x.tc x.ts x.ka x.kc (x.ks.set i y)).GOwn w:=by
 have hm:(x.ks.set i y).map ptrV=x.ks.map ptrV:=by
  apply List.ext_getElem
  ·simp
  ·intro j h1 h2;simp only [List.length_map,List.length_set] at h1 h2;rw [List.getElem_map,List.getElem_map,List.getElem_set]
   split
   ·rename_i e
    subst e;unfold ptrV;rw [hpc,List.getD,List.getElem?_eq_getElem h2];rfl
   ·rfl
 refine ⟨?_,h.there,h.runes,?_,h.hts,h.lf,h.ps⟩
 ·have:=h.cells;unfold NT.gcells at this ⊢
  simpa using this
 ·have:=h.kids;unfold NT.kidsV at this ⊢;simp only [NT.ka_mk,NT.kc_mk,NT.ks_mk,List.length_set,hm] at this ⊢;exact this
theorem NT.GOk.put {O:Nat→Prop} {w w':World} (hk:Keeps O w w') {F:List Nat} {y':NT} {t:T}:∀ {p:List Int} {x:NT},x.GOk w→x.er.at p=some t→(∀ j,O j→j∈(x.sub p).gb∨w.heap.size≤j∨j∈F)→y'.pc=(x.sub p).pc→y'.GOk w' →
  (∀ b∈y'.gb,b∈(x.sub p).gb∨w.heap.size≤b∨b∈F)→(∀ b∈F,b ∉ x.gb)→(NT.setAt y' x p).GOk w':=by
 intro p x hx hat hO hpc hy hb hF;obtain ⟨rest,hp1,hp2⟩:=NT.gb_split hat;obtain ⟨q1,q2⟩:=hp2 y' hpc;have hnd:=hp1.nodup_iff.1 hx.nd;obtain ⟨hn1,hnr,hdis⟩:=List.nodup_append.1 hnd;have hrl:∀ b∈rest,b < w.heap.size:=fun b hb=>hx.lt b (hp1.mem_iff.2 (List.mem_append_right _ hb));refine ⟨?_,?_,?_⟩
 ·-- the cells
  clear hp1 hp2 q1 q2 hnd hnr hn1 hdis hrl rest
  induction p generalizing x with
  | nil=>exact hy.g
  | cons i r ih =>
   obtain ⟨h0,h1,h2⟩:=T.at_of hat;rw [NT.er_ks,List.length_map] at h1;rw [NT.er_ks,← za2] at h2;have hi:i.toNat < x.ks.length:=by omega
   have hmem:x.ks.getD i.toNat default∈x.ks:=by
    rw [List.getD,List.getElem?_eq_getElem hi];exact List.getElem_mem hi
   have hkok:=hx.kid hmem;obtain ⟨rk,hk1,hk2⟩:=NT.gb_split h2;have hsub:∀ b,b∈(x.sub (i::r)).gb→b∈(x.ks.getD i.toNat default).gb:=fun b hb=>hk1.mem_iff.2 (List.mem_append_left _ hb);have hxnd:=hx.nd;rw [NT.gb_eq] at hxnd;have hper:=NT.gbs_get hi;obtain ⟨_,hn2,hd2⟩:=List.nodup_append.1 hxnd;have hn3:=hper.nodup_iff.1 hn2;obtain ⟨_,_,hd3⟩:=List.nodup_append.1 hn3
   have hobO:∀ b∈x.ob,¬ O b:=fun b hb hob=>by
    rcases hO b hob with h | h | h
    ·exact hd2 b hb b (NT.mem_gbs hmem (hsub b h)) rfl
    ·have:=hx.lt b (by rw [NT.gb_eq];exact List.mem_append_left _ hb);omega
    ·exact hF b h (by rw [NT.gb_eq];exact List.mem_append_left _ hb)
   have hown:=hx.g.own.keeps hk hobO (fun b hb=>hx.lt b (by rw [NT.gb_eq];exact List.mem_append_left _ hb));have hpk:(NT.setAt y' (x.ks.getD i.toNat default) r).pc=(x.ks.getD i.toNat default).pc:=(hk2 y' hpc).2;rw [NT.setAt_cons];refine ⟨_,hown.setKid hpk,fun k hkm=>?_⟩;have hkm:k∈x.ks.set i.toNat (NT.setAt y' (x.ks.getD i.toNat default) r):=hkm;rw [List.mem_iff_getElem] at hkm;obtain ⟨j,hj,rfl⟩:=hkm;rw [List.length_set] at hj;rw [List.getElem_set]
   split
   ·refine ih hkok h2 (fun j hj=>?_) hpc (fun b hb'=>hb b hb') (fun b hb' hm=>hF b hb' (by rw [NT.gb_eq];exact List.mem_append_right _ (NT.mem_gbs hmem hm)));exact hO j hj
   ·rename_i hne
    have hmem2:x.ks[j]∈x.ks.eraseIdx i.toNat:=by
     rw [List.mem_eraseIdx_iff_getElem];exact ⟨j,hj,fun e=>hne e.symm,rfl⟩
    refine (hx.kid (List.getElem_mem hj)).g.keeps hk (fun b hb' hob=>?_) (hx.kid (List.getElem_mem hj)).lt
    rcases hO b hob with h | h | h
    ·exact hd3 b (hsub b h) b (NT.mem_gbs hmem2 hb') rfl
    ·have:=(hx.kid (List.getElem_mem hj)).lt b hb';omega
    ·exact hF b h (by rw [NT.gb_eq];exact List.mem_append_right _ (NT.mem_gbs (List.getElem_mem hj) hb'))
 ·refine q1.nodup_iff.2 (List.nodup_append.2 ⟨hy.nd,hnr,fun a ha b hbr e=>?_⟩);subst e
  rcases hb a ha with h | h | h
  ·exact hdis a h a hbr rfl
  ·have:=hrl a hbr;omega
  ·exact hF a h (hp1.mem_iff.2 (List.mem_append_right _ hbr))
 ·intro b hb'
  rcases List.mem_append.1 (q1.mem_iff.1 hb') with h | h
  ·exact hy.lt b h
  ·exact Nat.lt_of_lt_of_le (hrl b h) hk.size
theorem owns_at {w:World} {t:TypeId} {a:Option Addr} {n c:Nat} {xs:List Value} (h:w.ownsRow 0 t 1 (.slice a n c) n xs) {m:Nat} (hm:m < n):∃ b,a=some ⟨b,0,none⟩∧b < w.heap.size∧w.cell? ⟨b,m,none⟩=some (xs.getD m undef):=by
 have hl:xs.length=n:=by have:=h.1;omega
 rcases h.2 with ⟨_,h0⟩ | ⟨g,cap,cur,hv,_,hh,_⟩
 ·omega
 ·have ha:a=some ⟨g,0,none⟩:=by injection hv
  have hr:=(zb0 (f:=fun i _=>xs.getD i undef) h (fun i hi j hj=>by
   obtain rfl:j=0:=by omega
   simp [List.getD,List.getElem?_eq_getElem (show i < xs.length by omega)])).1
  obtain ⟨b,o,e,_,hb,hc⟩:=hr.2 (by omega);rw [ha] at e;injection e with e
  injection e with e1 e2
  subst e1 e2;have:=hc m hm 0 (by omega);exact ⟨g,ha,hb,by simpa using this⟩
theorem NT.GOwn.kid_at {w:World} {x:NT} (h:x.GOwn w) {m:Nat} (hm:m < x.ks.length):∃ b,x.ka=some ⟨b,0,none⟩∧b < w.heap.size∧w.cell? ⟨b,m,none⟩=some (ptrV (x.ks.getD m default)):=by
 obtain ⟨b,h1,h2,h3⟩:=owns_at h.kids hm;refine ⟨b,h1,h2,?_⟩;rw [h3]
 simp [List.getD,List.getElem?_eq_getElem hm]
theorem NT.GOwn.at {w:World} {x:NT} (h:x.GOwn w):w.cell? ⟨x.pc,0,none⟩=some (.int .i64 (x.ts.headD 0))∧w.cell? ⟨x.pc,1,none⟩=some (.slice x.ta x.ts.tail.length x.tc)∧w.cell? ⟨x.pc,2,none⟩=some (.slice x.ka x.ks.length x.kc) :=
 ⟨zcl h.cells (j:=0) rfl,zcl h.cells (j:=1) rfl,zcl h.cells (j:=2) rfl⟩
theorem NT.G.sub {w:World} {t:T}:∀ {p:List Int} {x:NT},x.G w→x.er.at p=some t→(x.sub p).G w:=by
 intro p
 induction p with
 | nil=>intro x h _;exact h
 | cons i r ih =>
  intro x h e;obtain ⟨h0,h1,h2⟩:=T.at_of e;rw [NT.er_ks,List.length_map] at h1;rw [NT.er_ks,← za2] at h2;exact ih (h.all _ (zbh x.ks i.toNat (by omega))) h2
set_option maxRecDepth 100000 in
set_option maxHeartbeats 1000000 in
theorem za7 (x:NT) {t:T} (pa:Option Addr) (pc:Nat) (p:List Int) (w:World) (hx:x.G w) (hp:IntsIn w 0 w.heap.size pa pc p) (hat:x.er.at p=some t) (hl:p.length≤1048576) :
  Calls Tryz.prog 27 #[.pointer (some ⟨x.pc,0,none⟩),.slice pa p.length pc] w fun e w'=>e=.returned (.pointer (some ⟨(x.sub p).pc,0,none⟩))∧w'=w:=by
 go_enter Tryz.func27,Tryz.ntmps27
 go_wp2_with fail
 go_loop [0,9] (fun v i=>∃ (k:Nat) (y:NT),k≤p.length∧i=.int .i64 k∧v=.pointer (some ⟨y.pc,0,none⟩)∧Hid (y.G w)∧Hid (y.er.at (p.drop k)=some t)∧Hid (x.sub p=y.sub (p.drop k))) (fun _ i=>p.length - (intOf i).toNat)
 case atStart=>exact ⟨0,x,by omega,rfl,rfl,hx,(by show _=_;exact hat),(by show _=_;rfl)⟩
 case round =>
  obtain ⟨k,y,hk1,rfl,rfl,hY,hA,hS⟩:=hrel;clear hx hat
  by_cases hlt:k < p.length
  ·obtain ⟨pb,po,rfl,_,hpb,hpc⟩:=hp.at hlt;have hD:=za0 p k hlt;have e0:p.getD k default=p.getD k 0:=rfl;rw [e0] at hD;generalize p.getD k 0=i at *;have hA':=hA.out;rw [hD] at hA';obtain ⟨h0,h1,h2⟩:=T.at_of hA';rw [NT.er_ks,List.length_map] at h1;rw [NT.er_ks,← za2] at h2;obtain ⟨m,rfl⟩:∃ m:Nat,i=m:=⟨i.toNat,by omega⟩
   have hm:m < y.ks.length:=by omega
   rw [Int.toNat_natCast] at h2;obtain ⟨_,_,c2⟩:=hY.out.own.at;obtain ⟨kb,hka,hkb,hkc⟩:=hY.out.own.kid_at hm;rw [hka] at c2;have HN:=zQ0 (hY.out.all _ (zbh y.ks m hm));have HA:=zQ0 h2
   have HS:Hid (x.sub p=(y.ks.getD m default).sub (p.drop (k+1))):=by
    show _=_
    rw [hS.out,hD,NT.sub];rfl
   unfold ptrV at hkc;clear hD e0 hA hA' hS h2 hka h0;generalize y.ks.getD m default=z at *;have ht:decide ((m:Int) < 0)=false:=by simp
   have ht2:decide ((y.ks.length:Int)≤(m:Int))=false:=by simp;omega
   have hm2:(m:Int) < y.ks.length:=by omega
   go_wp2_with fail
   go_round
   case rel=>exact ⟨k+1,z,by omega,by go_num,rfl,HN,HA,HS⟩
   case measure=>simp [intOf];omega
  ·obtain rfl:p.length=k:=by omega
   have HR:Hid (x.sub p=y):=by show _=_;rw [hS.out,List.drop_length];rfl
   clear hY hA hS;go_wp2_with fail
   go_ret
   exact ⟨by rw [HR.out];rfl,rfl⟩
end Go.Proofs.YtbhbekocmpmjfaaGreatDoor
