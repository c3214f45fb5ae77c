/- tree.at, tree.Get: the contracts. -/
import Derived.Test.YtccobobnmpafbaaGreatDoorK03
import Derived.Test.YtccobobnmpafbaaGreatDoorK02
import Derived.Test.YtccobobnmpafbaaGreatDoorK04
import Derived.Deep.RegionHeld3
import Derived.Deep.DeepCutAuto
import Derived.Deep.MidRow
import Derived.Great.Walk
set_option maxRecDepth 100000
set_option maxHeartbeats 100000000
namespace Go.Proofs.YtccobobnmpafbaaGreatDoor
open Go Go.RowKit
def T.at:T->List Int->Option T
 | n,[]=>some n
 | n,i::r=>if i < 0\/(n.ks.length:Int)<=i then none else T.at (n.ks.getD i.toNat default) r
def NodeAt(w:World)(b o:Nat)(n:NT):Prop:=w.cell? ⟨b,o,none⟩=some (.bool n.lf)/\w.cell? ⟨b,o+1,none⟩=some (.slice n.pa n.ps.length n.pc)/\w.cell? ⟨b,o+2,none⟩=some (.slice n.ta n.ts.length n.tc)/\w.cell? ⟨b,o+3,none⟩=some (.slice n.ka n.ks.length n.kc)
theorem NodeAt.grew{w w':World}{b o:Nat}{n:NT}(h:NodeAt w b o n)(hg:Grew w w')(hb:b < w.heap.size):NodeAt w' b o n:=by
 have q:∀ j,w'.cell? ⟨b,j,none⟩=w.cell? ⟨b,j,none⟩:=fun j=>hg.cell (p:=⟨b,j,none⟩) hb;unfold NodeAt at h ⊢;simp only[q];exact h
theorem zat{t x:T}:∀ {p:List Int},t.at p=some x->x.bulk<=t.bulk:=by
 intro p
 induction p generalizing t with
 | nil=>intro h;simp only[T.at,Option.some.injEq] at h;rw[h];exact Nat.le_refl _
 | cons i r ih =>
  intro h;rw[T.at] at h
  split at h
  ·cases h
  ·rename_i hi
   have h1:=ih h;have h2:=T.bulk_kid (n:=t) (zbd t.ks i.toNat (by omega));omega
def AtEnds(n:NT)(p:List Int)(lo hi:Nat)(w:World)(e:Ending)(w':World):Prop :=
 Grew w w'/\((∃ b' o' x,e=.returned (.tuple #[.pointer (some ⟨b',o',none⟩),.int .i64 0])/\NodeAt w' b' o' x/\x.In w' lo hi/\b' < w'.heap.size/\Hid (n.er.at p=some x.er))\/(e=.returned (.tuple #[.pointer none,.int .i64 5])/\Hid (n.er.at p=none)))
theorem atEnds_none{n:NT}{p:List Int}{lo hi:Nat}{w w':World}(hg:Grew w w')(h:Hid (n.er.at p=none)):AtEnds n p lo hi w (.returned (.tuple #[.pointer none,.int .i64 5])) w':=⟨hg,Or.inr ⟨rfl,h⟩⟩
theorem atEnds_some{n:NT}{p:List Int}{lo hi:Nat}{w w':World}{b o:Nat}{x:NT}(hg:Grew w w')(h1:NodeAt w' b o x)(h2:x.In w' lo hi)(h3:b < w'.heap.size)(h:Hid (n.er.at p=some x.er)):AtEnds n p lo hi w (.returned (.tuple #[.pointer (some ⟨b,o,none⟩),.int .i64 0])) w' :=
 ⟨hg,Or.inl ⟨_,_,_,rfl,h1,h2,h3,h⟩⟩
theorem treeAt_any(n:NT)(b o:Nat)(pa:Option Addr)(pc:Nat)(p:List Int)(w:World)(lo hi plo phi:Nat)(hbx:NodeAt w b o n)(hbs:b < w.heap.size)(hn:n.In w lo hi)(hhi:hi<=w.heap.size)(hp:IntsIn w plo phi pa pc p)(hphi:phi<=w.heap.size)(hl:p.length<=1048576) :
  Calls Tryz.prog 150 #[.pointer (some ⟨b,o,none⟩),.slice pa p.length pc] w (AtEnds n p lo hi w):=by
 go_enter Tryz.func150,Tryz.ntmps150
 go_wp2_with fail
 go_loopw [0,10] (fun t i wr=>∃(k b' o':Nat) (x:NT),k<=p.length/\i=.int .i64 k/\t=.pointer (some ⟨b',o',none⟩)/\Grew w wr/\NodeAt wr b' o' x/\b' < wr.heap.size/\x.In wr lo hi/\Hid (n.er.at p=x.er.at (p.drop k))) (fun _ i _=>p.length - (intOf i).toNat)
 case atStart=>exact⟨0,b,o,n,by omega,rfl,rfl,Grew.refl _,hbx,hbs,hn,by show _=_;rfl⟩
 case round =>
  obtain⟨k,b',o',x,hk1,rfl,rfl,hg,hbx',hbs',hx,hH⟩:=hrel;clear hbx hn
  by_cases hlt:k < p.length
  ·obtain⟨pb,po,rfl,_,hpb,hpc⟩:=(hp.grew hg hphi).at hlt;have hD:=zaZ p k hlt;obtain⟨d0,d1,d2,d3⟩:=id hbx';obtain⟨ka,hka⟩:∃ y,x.ka=y:=⟨_,rfl⟩
   rw[hka] at d3;have HKA:=zQ0 hka;clear hka;have HK:=zQ0 ((NT.In_iff.1 hx).2.2);have e0:p.getD k default=p.getD k 0:=rfl;rw[e0] at hD;generalize p.getD k 0=i at *
   by_cases h0:i < 0
   ·have HN:Hid (n.er.at p=none):=by
     show _=_
     rw[hH.out,hD,T.at,if_pos (Or.inl h0)]
    clear hD e0 hH;have ht:decide (i < 0)=true:=by simpa using h0
    go_wp2_with fail
    go_ret2
    exact atEnds_none hg HN
   ·have h0':¬ i < 0:=h0
    by_cases h1:(x.ks.length:Int)<=i
    ·have HN:Hid (n.er.at p=none):=by
      show _=_
      rw[hH.out,hD,T.at,if_pos (Or.inr (by simpa using h1))]
     clear hD e0 hH;have ht:decide (i < 0)=false:=by simpa using h0
     have ht2:decide ((x.ks.length:Int)<=i)=true:=by simpa using h1
     go_wp2_with fail
     go_ret2
     exact atEnds_none hg HN
    ·obtain⟨m,rfl⟩:∃ m:Nat,i=m:=⟨i.toNat,by omega⟩
     have hm:m < x.ks.length:=by omega
     have HN:Hid (n.er.at p=(x.ks.getD m default).er.at (p.drop (k+1))):=by
      show _=_
      rw[hH.out,hD,T.at,if_neg (by simp only[NT.er_ks,List.length_map];omega)]
      simp[List.getD,hm]
     have hk:=HK.out.at hm;obtain⟨b2,o2,hka2,hb1,hb2,hc0,hc1,hc2,hc3⟩:=hk;obtain rfl:ka=some ⟨b2,o2,none⟩:=by rw[<- HKA.out];exact hka2
     have hN2:NodeAt wr b2 (o2+m * 4) (x.ks.getD m default):=⟨hc0,hc1,hc2,hc3⟩
     have hx2:=HK.out.2 _ (zbd x.ks m hm);have hz2:b2 < wr.heap.size:=by have:=hg.size;omega
     clear hD e0 hH hka2 hc0 hc1 hc2 hc3 hbx';generalize x.ks.getD m default=y at *;have ht:decide ((m:Int) < 0)=false:=by simp
     have ht2:decide ((x.ks.length:Int)<=(m:Int))=false:=by simpa using h1
     have hm2:(m:Int) < x.ks.length:=by omega
     go_wp2_with fail
     go_roundw
     case rel=>exact⟨k+1,b2,o2+m * 4,y,by omega,by go_num,rfl,hg,hN2,hz2,hx2,HN⟩
     case measure=>simp[intOf];omega
  ·obtain rfl:p.length=k:=by omega
   have HN:Hid (n.er.at p=some x.er):=by
    show _=_
    rw[hH.out,List.drop_of_length_le zQ1,T.at]
   have hlt3:¬ (p.length:Int) < p.length:=by omega
   go_wp2_with fail
   go_ret2
   exact atEnds_some hg hbx' hx hbs' HN
def NT.nil:NT:=.mk false none 0 [] none 0 [] none 0 []
theorem NT.nil_in{w:World}{lo hi:Nat}:NT.nil.In w lo hi:=NT.In_iff.2 ⟨zcD,zcI,zby⟩
theorem nil_own{w:World}{lo hi:Nat}:NT.nil.Own w lo hi :=
 ⟨NT.nil_in,NT.Soft_iff.2 ⟨fun h=>(by cases h),fun h=>(by cases h),fun h=>(by cases h),fun k hk=>(by cases hk)⟩⟩
def GetEnds(n:NT)(p:List Int)(w:World)(e:Ending)(w':World):Prop :=
 ∃(x:NT) (k:Int),e=.returned (.tuple #[x.val,.int .i64 k])/\Grew w w'/\x.Own w' w.heap.size w'.heap.size/\Hid ((k=0/\n.er.at p=some x.er)\/(k=5/\n.er.at p=none/\x.er=T.mk false [] [] []))
theorem treeGet_any(n:NT)(pa:Option Addr)(pc:Nat)(p:List Int)(w:World)(hn:n.Ok w)(hb:n.er.bulk<=1048576)(hp:IntsIn w 0 w.heap.size pa pc p)(hl:p.length<=1048576) :
  Calls Tryz.prog 111 #[n.val,.slice pa p.length pc] w (GetEnds n p w):=by
 have CA:=zQ0 (fun w1 (hg:Grew w w1) (b:Nat) (hb1:b < w1.heap.size) (hat:NodeAt w1 b 0 n)=>treeAt_any n b 0 pa pc p w1 0 w.heap.size 0 w.heap.size hat hb1 (NT.In.grew hn hg zQ1) hg.size (hp.grew hg zQ1) hg.size hl);unfold NT.val
 go_enter Tryz.func111,Tryz.ntmps111
 go_wp2_with fail
 have g1:Grew w ((w.alloc (.cells #[.bool n.lf,.slice n.pa n.ps.length n.pc,.slice n.ta n.ts.length n.tc,.slice n.ka n.ks.length n.kc] 26)).alloc (.cells #[.bool false,.slice none 0 0,.slice none 0 0,.slice none 0 0] 26)):=(Grew.alloc1 _ _).alloc _;have hat:NodeAt ((w.alloc (.cells #[.bool n.lf,.slice n.pa n.ps.length n.pc,.slice n.ta n.ts.length n.tc,.slice n.ka n.ks.length n.kc] 26)).alloc (.cells #[.bool false,.slice none 0 0,.slice none 0 0,.slice none 0 0] 26)) w.heap.size 0 n:=⟨by go_simp,by go_simp,by go_simp,by go_simp⟩
 have hr1:NodeAt ((w.alloc (.cells #[.bool n.lf,.slice n.pa n.ps.length n.pc,.slice n.ta n.ts.length n.tc,.slice n.ka n.ks.length n.kc] 26)).alloc (.cells #[.bool false,.slice none 0 0,.slice none 0 0,.slice none 0 0] 26)) (w.heap.size+1) 0 NT.nil:=⟨by show _=some (Value.bool false);go_simp,by show _=some (Value.slice none 0 0);go_simp,by show _=some (Value.slice none 0 0);go_simp,by show _=some (Value.slice none 0 0);go_simp⟩
 have hf1:∀ j,((w.alloc (.cells #[.bool n.lf,.slice n.pa n.ps.length n.pc,.slice n.ta n.ts.length n.tc,.slice n.ka n.ks.length n.kc] 26)).alloc (.cells #[.bool false,.slice none 0 0,.slice none 0 0,.slice none 0 0] 26)).frozen? ⟨w.heap.size+1,j,none⟩=false:=fun j=>by rw[World.frozen?_alloc_at _ _ _ _ (by simp)]
 have z1:w.heap.size+1 < ((w.alloc (.cells #[.bool n.lf,.slice n.pa n.ps.length n.pc,.slice n.ta n.ts.length n.tc,.slice n.ka n.ks.length n.kc] 26)).alloc (.cells #[.bool false,.slice none 0 0,.slice none 0 0,.slice none 0 0] 26)).heap.size:=by simp
 generalize (w.alloc (.cells #[.bool n.lf,.slice n.pa n.ps.length n.pc,.slice n.ta n.ts.length n.tc,.slice n.ka n.ks.length n.kc] 26)).alloc (.cells #[.bool false,.slice none 0 0,.slice none 0 0,.slice none 0 0] 26)=w1 at *;refine (CA.out w1 g1 w.heap.size (by omega) hat).mono ?_;rintro e w2 ⟨hg,⟨b',o',x,rfl,hat2,hx,hz,hH⟩ | ⟨rfl,hH⟩⟩
 ·have hr2:=hr1.grew hg z1;have hf2:∀ j,w2.frozen? ⟨w.heap.size+1,j,none⟩=false:=fun j=>(hg.frozen (p:=⟨w.heap.size+1,j,none⟩) z1).trans (hf1 j);have hbx:=zat hH.out;have z2:=Nat.lt_of_lt_of_le z1 hg.size;have C:=zQ0 (copy_any x w2 (hx.ok (Nat.le_trans g1.size hg.size)) (by omega));unfold NT.val at C;obtain⟨q0,q1,q2,q3⟩:=hat2;go_wp2_with fail
  refine C.out.mono ?_;rintro e w3 ⟨y,rfl,g3,hy,hye⟩;have hr3:=hr2.grew g3 z2;have hf3:∀ j,w3.frozen? ⟨w.heap.size+1,j,none⟩=false:=fun j=>(g3.frozen (p:=⟨w.heap.size+1,j,none⟩) z2).trans (hf2 j);obtain⟨r0,r1,r2,r3⟩:=hr3;have HG:=zQ0 (⟨(g1.trans hg).trans g3,hy.mono (show w.heap.size+2<=w2.heap.size by omega) zQ1⟩:_/\_);have HH:Hid (n.er.at p=some y.er):=by show _=_;rw[hH.out,hye.out]
  clear q0 q1 q2 q3 hr2 hr1 hat hf2 hf1 hg g3 hy hye hH C CA;go_wp2_with fail
  have hW:=copy_out (u0:=.bool y.lf) (u1:=.slice y.pa y.ps.length y.pc) (u2:=.slice y.ta y.ts.length y.tc) (u3:=.slice y.ka y.ks.length y.kc) HG.out.1 r0 r1 r2 r3 HG.out.2 rfl;generalize ((((w3.setCell ⟨w.heap.size+1,0,none⟩ (.bool y.lf)).setCell ⟨w.heap.size+1,1,none⟩ (.slice y.pa y.ps.length y.pc)).setCell ⟨w.heap.size+1,2,none⟩ (.slice y.ta y.ts.length y.tc)).setCell ⟨w.heap.size+1,3,none⟩ (.slice y.ka y.ks.length y.kc))=W' at *;obtain⟨hg',f0,f1,f2,f3,ho⟩:=hW;refine bodyPost_ret (v:=.tuple #[y.val,.int .i64 0]) (by simp[results,Tryz.results111,go_sem,NT.val,f0,f1,f2,f3]) rfl ⟨y,0,rfl,hg',ho,Or.inl ⟨rfl,HH.out⟩⟩
 ·have hr2:=hr1.grew hg z1;have hf2:∀ j,w2.frozen? ⟨w.heap.size+1,j,none⟩=false:=fun j=>(hg.frozen (p:=⟨w.heap.size+1,j,none⟩) z1).trans (hf1 j);obtain⟨r0,r1,r2,r3⟩:=hr2;have HG:=zQ0 (g1.trans hg);clear hr1 hat hf1 hg CA;go_wp2_with fail
  have hW:=copy_out (x:=NT.nil) (u0:=.bool false) (u1:=.slice none 0 0) (u2:=.slice none 0 0) (u3:=.slice none 0 0) HG.out r0 r1 r2 r3 nil_own rfl;generalize ((((w2.setCell ⟨w.heap.size+1,0,none⟩ (.bool false)).setCell ⟨w.heap.size+1,1,none⟩ (.slice none 0 0)).setCell ⟨w.heap.size+1,2,none⟩ (.slice none 0 0)).setCell ⟨w.heap.size+1,3,none⟩ (.slice none 0 0))=W' at *;obtain⟨hg',f0,f1,f2,f3,ho⟩:=hW;refine bodyPost_ret (v:=.tuple #[NT.nil.val,.int .i64 5]) (by simp[results,Tryz.results111,go_sem,NT.val,NT.nil,f0,f1,f2,f3]) rfl ⟨NT.nil,5,rfl,hg',ho,Or.inr ⟨rfl,hH.out,rfl⟩⟩
end Go.Proofs.YtccobobnmpafbaaGreatDoor
namespace Go.Proofs.YtccobobnmpafbaaGreatDoor
open Go Go.RowKit
def Safe(O:Nat->Prop)(w:World)(P:World->Prop):Prop:=∀ w',Keeps O w w'->P w'
theorem Safe.now{O:Nat->Prop}{w:World}{P:World->Prop}(h:Safe O w P):P w:=h w (Keeps.refl _ _)
theorem Safe.moves{O O':Nat->Prop}{w w':World}{P:World->Prop}(h:Safe O w P)(hm:Moves O w O' w'):Safe O' w' P:=fun w'' hk=>by
 have h2:Moves O' w' O' w'':=⟨hk,fun _ h=>Or.inl h⟩
 exact h w'' (hm.trans h2).1
theorem Safe.grew{O:Nat->Prop}{w w':World}{P:World->Prop}(h:Safe O w P)(hg:Grew w w'):Safe O w' P:=h.moves (Moves.grew hg)
theorem Safe.and{O:Nat->Prop}{w:World}{P Q:World->Prop}(h:Safe O w P)(k:Safe O w Q):Safe O w (fun w=>P w/\Q w):=fun w' hk=>⟨h w' hk,k w' hk⟩
theorem Safe.imp{O:Nat->Prop}{w:World}{P Q:World->Prop}(h:Safe O w P)(k:∀ w,P w->Q w):Safe O w Q:=fun w' hk=>k w' (h w' hk)
theorem Safe.row{O:Nat->Prop}{w:World}{lo hi:Nat}{a:Option Addr}{n c k:Nat}{f:Nat->Nat->Value}(h:RowIn w lo hi a n c k f)(hh:hi<=w.heap.size)(ho:∀ j,lo<=j->j < hi->¬ O j):Safe O w (fun w=>RowIn w 0 w.heap.size a n c k f) :=
 fun _ hk=>(h.agree (hk.agree hh ho)).mono (Nat.zero_le _) (Nat.le_trans hh hk.size)
theorem Safe.runes{O:Nat->Prop}{w:World}{lo hi:Nat}{a:Option Addr}{c:Nat}{ts:List Int}(h:RunesIn w lo hi a c ts)(hh:hi<=w.heap.size)(ho:∀ j,lo<=j->j < hi->¬ O j):Safe O w (fun w=>RunesIn w 0 w.heap.size a c ts) :=
 fun _ hk=>(h.agree (hk.agree hh ho)).mono (Nat.zero_le _) (Nat.le_trans hh hk.size)
theorem Safe.tree{O:Nat->Prop}{w:World}{lo hi:Nat}{n:NT}(h:n.In w lo hi)(hh:hi<=w.heap.size)(ho:∀ j,lo<=j->j < hi->¬ O j):Safe O w (fun w=>n.Ok w) :=
 fun _ hk=>(h.agree (hk.agree hh ho)).mono (Nat.zero_le _) (Nat.le_trans hh hk.size)
theorem Safe.old{O:Nat->Prop}{w:World}{P:World->Prop}(hO:∀ k,O k->w.heap.size<=k)(hP:∀ w',Grew w w'->P w'):Safe O w P:=fun w' hk=>hP w' (hk.below zQ1 (fun k h1 h2=>by have:=hO k h2;omega))
def ownOf(v:Value)(k:Nat):Prop:=v.ownBlock=some k
section
variable {α:Type} [Inhabited α]
def Built(S:Nat->Prop)(t:TypeId)(k:Nat)(cells:α->List Value)(In:α->World->Prop)(B:Nat)(w:World)(v:Value)(L:List α):Prop :=
 w.ownsRow B t k v L.length (L.flatMap cells)/\∀ x∈L,Safe (fun j=>ownOf v j\/S j) w (In x)
variable {S:Nat->Prop} {t:TypeId} {k:Nat} {cells:α->List Value} {In:α->World->Prop} {B:Nat} {w w':World} {v v':Value} {L M:List α}
omit [Inhabited α] in
theorem Built.nil:Built S t k cells In B w (.slice none 0 0) ([]:List α):=⟨World.ownsRow_nil _ _ _ _,fun x hx=>by cases hx⟩
omit [Inhabited α] in
theorem Built.lt (h:Built S t k cells In B w v L):∀ j,ownOf v j->B<=j/\j < w.heap.size:=fun j hj=>h.1.lt j hj
omit [Inhabited α] in
theorem Built.grew (h:Built S t k cells In B w v L) (hg:Grew w w'):Built S t k cells In B w' v L:=⟨zb4 h.1 hg,fun x hx=>(h.2 x hx).grew hg⟩
omit [Inhabited α] in
/-- stores into blocks of S -/
theorem Built.keeps (h:Built S t k cells In B w v L) (hk:Keeps S w w') (hd:∀ j,ownOf v j->¬ S j):Built S t k cells In B w' v L:=by
 refine⟨?_,fun x hx=>(h.2 x hx).moves ⟨hk.wider fun _ _ h=>Or.inr h,fun _ h=>Or.inl h⟩⟩;obtain⟨h1,h2⟩:=h.1;refine⟨h1,?_⟩
 rcases h2 with h2 | ⟨g,cap,cur,hv,hg2,hh,r⟩
 ·exact Or.inl h2
 ·have hlt:g < w.heap.size:=by
   rcases Nat.lt_or_ge g w.heap.size with h1 | h1
   ·exact h1
   ·rw[Array.getElem?_eq_none h1] at hh;cases hh
  exact Or.inr ⟨g,cap,cur,hv,hg2,(hk.block g hlt (hd g (by subst hv;rfl))).trans hh,r⟩
omit [Inhabited α] in
theorem Built.all (h:Built S t k cells In B w v L):∀ x∈L,In x w:=fun x hx=>(h.2 x hx).now
theorem Built.row(h:Built S t k cells In B w v L)(hk:∀ x,(cells x).length=k):∃ a c,v=.slice a L.length c/\RowIn w B w.heap.size a L.length c k (fun i j=>(cells (L.getD i default)).getD j undef):=by
 obtain⟨a,c,rfl⟩:=zb2 h.1;exact⟨a,c,rfl,(zbZ h.1 (flat_at hk L)).1⟩
omit [Inhabited α] in
/-- what is appended -/
theorem Built.push (h:Built S t k cells In B w v L) (hM:∀ x∈M,Safe (fun j=>ownOf v j\/S j) w (In x)) (h1:w'.ownsRow B t k v' (L.length+M.length) (L.flatMap cells++M.flatMap cells)) (h2:w.grownBy w' v.ownBlock) (h3:∀ j,v'.ownBlock=some j->v.ownBlock=some j\/w.heap.size<=j):Built S t k cells In B w' v' (L++M):=by
 have hm:Moves (fun j=>ownOf v j\/S j) w (fun j=>ownOf v' j\/S j) w':=⟨zbj h2 (fun j hj=>Or.inl hj),fun j hj=>by
  rcases hj with hj | hj
  ·exact (h3 j hj).imp_left Or.inl
  ·exact Or.inl (Or.inr hj)⟩
 refine⟨?_,fun x hx=>?_⟩
 ·rw[List.length_append,List.flatMap_append];exact h1
 ·rcases List.mem_append.1 hx with hx | hx
  ·exact (h.2 x hx).moves hm
  ·exact (hM x hx).moves hm
end
theorem Moves.keeps{O O':Nat->Prop}{a b:World}(h:Moves O a O' b):Keeps O a b:=h.1
theorem Safe.push{S:Nat->Prop}{v v':Value}{w w':World}{P:World->Prop}(h:Safe (fun j=>ownOf v j\/S j) w P)(hm:Moves (ownOf v) w (ownOf v') w'):Safe (fun j=>ownOf v' j\/S j) w' P :=
 h.moves ⟨hm.1.wider fun _ _ h=>Or.inl h,fun j hj=>by
  rcases hj with hj | hj
  ·exact (hm.2 j hj).imp_left Or.inl
  ·exact Or.inl (Or.inr hj)⟩
theorem Grew.stores{a b c:World}{S:Nat->Prop}(h:Grew a b)(hk:Keeps S b c)(hv:∀ j,S j->a.heap.size<=j):Grew a c:=h.keep hk hv
theorem Grew.own{a b c:World}{v:Value}{O:Nat->Prop}(h:Grew a b)(hk:Moves (ownOf v) b O c)(hv:∀ j,ownOf v j->a.heap.size<=j):Grew a c:=h.keep hk.1 hv
end Go.Proofs.YtccobobnmpafbaaGreatDoor
namespace Go.Proofs.YtccobobnmpafbaaGreatDoor
open Go Go.RowKit
def orT:List Int->Int
 | []=>0
 | x::r=>if x=0 then orT r else x
def ptCmp(a b:PtE):Int:=orT [cmpP a.p b.p,cmpI a.o b.o]
def zcJ(a b:PtE):Bool:=decide (a.p=b.p) && decide (a.o=b.o)
theorem ptCmp_same(a b:PtE):(ptCmp a b == 0)=zcJ a b:=by
 have h1:=cmpP_zero (x:=a.p) (y:=b.p);have h2:=cmpI_zero (x:=a.o) (y:=b.o);rw[Bool.eq_iff_iff];simp only[ptCmp,orT,zcJ,beq_iff_eq,Bool.and_eq_true,decide_eq_true_iff]
 split
 ·rename_i h
  split
  ·rename_i h'
   exact⟨fun _=>⟨h1.1 h,h2.1 h'⟩,fun _=>rfl⟩
  ·rename_i h'
   exact⟨fun h3=>absurd h3 h',fun h3=>absurd (h2.2 h3.2) h'⟩
 ·rename_i h
  exact⟨fun h3=>absurd h3 h,fun h3=>absurd (h1.2 h3.1) h⟩
def ordT(a f:PtE):PtE × PtE × Bool:=if ptCmp f a < 0 then (f,a,true) else (a,f,false)
def PtL.cells(p:PtL):List Value:=[.slice p.p.a p.p.l.length p.p.c,.int .i64 p.o]
theorem PtL.In.grew{w w':World}{lo hi:Nat}{p:PtL}(h:p.In w lo hi)(hg:Grew w w')(hB:hi<=w.heap.size):p.In w' lo hi:=IntsIn.grew h hg hB
theorem PtL.In.mono{w:World}{lo hi lo' hi':Nat}{p:PtL}(h:p.In w lo hi)(h1:lo'<=lo)(h2:hi<=hi'):p.In w lo' hi':=IntsIn.mono h h1 h2
theorem PtL.In.later{w w':World}{p:PtL}(h:p.In w 0 w.heap.size)(hg:Grew w w'):p.In w' 0 w'.heap.size:=(h.grew hg zQ1).mono zQ1 hg.size
theorem cmpOr_any(a:Option Addr)(c:Nat)(l:List Int)(w:World)(lo hi:Nat)(hx:IntsIn w lo hi a c l)(hl:l.length<=1048576):Calls Tryz.prog 141 #[.slice a l.length c] w fun e w'=>e=.returned (.int .i64 (orT l))/\w=w':=by
 go_enter Tryz.func141,Tryz.ntmps141
 go_wp2_with fail
 go_loop [8] (fun i=>∃(k:Nat),k<=l.length/\i=.int .i64 k/\orT l=orT (l.drop k)) (fun i=>l.length - (intOf i).toNat)
 case atStart=>exact⟨0,by omega,rfl,by simp⟩
 case round =>
  obtain⟨k,hk,rfl,he⟩:=hrel;have HE:=zQ0 he;clear he
  by_cases hlt:k < l.length
  ·obtain⟨b1,o1,rfl,_,_,hc1⟩:=hx.at hlt
   have HS:Hid (orT (l.drop k)=if l.getD k 0=0 then orT (l.drop (k+1)) else l.getD k 0):=by
    show _=_
    rw[List.drop_eq_getElem_cons hlt,orT];simp[List.getD,hlt]
   generalize l.getD k 0=p at *
   by_cases h1:p=0
   ·have ht:(p != 0)=false:=by simp[h1]
    have HX:Hid (orT l=orT (l.drop (k+1))):=by show _=_;rw[HE.out,HS.out,if_pos h1]
    clear h1;go_wp2_with fail
    go_round
    case rel=>exact⟨k+1,by omega,by go_num,HX.out⟩
    case measure=>simp[intOf];omega
   ·have ht:(p != 0)=true:=by simpa using h1
    have HX:Hid (orT l=p):=by show _=_;rw[HE.out,HS.out,if_neg h1]
    clear h1;go_wp2_with fail
    go_ret
    exact⟨zcz (by rw[HX.out]),rfl⟩
  ·have HX:Hid (orT l=0):=by show _=_;rw[HE.out,List.drop_of_length_le (by omega)];rfl
   go_wp2_with fail
   go_ret
   exact⟨zcz (by rw[HX.out]),rfl⟩
theorem intsIn_two(w:World)(x y:Int)(t:TypeId):IntsIn (w.alloc (.cells #[.int .i64 x,.int .i64 y] t)) w.heap.size (w.heap.size+1) (some ⟨w.heap.size,0,none⟩) 2 [x,y] :=
 zcC (n:=2) (cp:=2) (k:=1) (f:=fun i _=>.int .i64 ([x,y].getD i 0)) zQ1 (by unfold maxLen;omega) (fun i hi j hj=>by
  obtain rfl:j=0:=by omega
  have hi':i=0\/i=1:=by omega
  rcases hi' with rfl | rfl <;> rfl)
def RetPt(p:PtE)(w:World)(e:Ending)(w':World):Prop:=∃ q:PtL,e=.returned (.agg #[.slice q.p.a q.p.l.length q.p.c,.int .i64 q.o])/\Grew w w'/\q.In w' w.heap.size w'.heap.size/\Hid (q.er=p)
theorem ptOwn_any(p:PtL)(w:World)(hp:p.In w 0 w.heap.size)(hl:p.p.l.length<=1048576):Calls Tryz.prog 200 #[.agg #[.slice p.p.a p.p.l.length p.p.c,.int .i64 p.o]] w (RetPt p.er w):=by
 have CP:=zQ0 (fun w1 (hg:Grew w w1)=>zaU p.p.a p.p.c p.p.l w1 (hp.later hg) hl);have HPE:Hid (p.er=⟨p.p.l,p.o⟩):=rfl;generalize p.p.l=l at *
 go_enter Tryz.func200,Tryz.ntmps200
 go_upto_region 1 with fail
 have gA:=Grew.alloc1 w (.cells #[.slice p.p.a l.length p.p.c,.int .i64 p.o] 29);have gB:=Grew.alloc1 (w.alloc (.cells #[.slice p.p.a l.length p.p.c,.int .i64 p.o] 29)) (.cells #[.slice none 0 0,.int .i64 0] 29);have c0:=zap gB (j:=0) (v:=.slice p.p.a l.length p.p.c) rfl;have c1:=zap gB (j:=1) (v:=.int .i64 p.o) rfl;have d0:=zap (Grew.refl ((w.alloc (.cells #[.slice p.p.a l.length p.p.c,.int .i64 p.o] 29)).alloc (.cells #[.slice none 0 0,.int .i64 0] 29))) (j:=0) (v:=.slice none 0 0) rfl;have d1:=zap (Grew.refl ((w.alloc (.cells #[.slice p.p.a l.length p.p.c,.int .i64 p.o] 29)).alloc (.cells #[.slice none 0 0,.int .i64 0] 29))) (j:=1) (v:=.int .i64 0) rfl;have df:∀ j,((w.alloc (.cells #[.slice p.p.a l.length p.p.c,.int .i64 p.o] 29)).alloc (.cells #[.slice none 0 0,.int .i64 0] 29)).frozen? ⟨w.heap.size+1,j,none⟩=false:=fun j=>by rw[World.frozen?_alloc_at _ _ _ _ (by simp)]
 have z1:w.heap.size+1 < ((w.alloc (.cells #[.slice p.p.a l.length p.p.c,.int .i64 p.o] 29)).alloc (.cells #[.slice none 0 0,.int .i64 0] 29)).heap.size:=by simp
 simp only[World.size_alloc] at d0 d1;have g1:=gA.trans gB;generalize (w.alloc (.cells #[.slice p.p.a l.length p.p.c,.int .i64 p.o] 29)).alloc (.cells #[.slice none 0 0,.int .i64 0] 29)=w1 at *;have KB:=fun w' (g:Keeps (·=w.heap.size+1) w1 w')=>(⟨(g.cell (p:=⟨w.heap.size,0,none⟩) (by show w.heap.size < _;omega) (by show ¬ w.heap.size=_;omega)).trans c0,(g.cell (p:=⟨w.heap.size,1,none⟩) (by show w.heap.size < _;omega) (by show ¬ w.heap.size=_;omega)).trans c1⟩:_/\_)
 have KD:=fun w' (g:Grew w1 w')=>(⟨(g.cell (p:=⟨w.heap.size+1,0,none⟩) z1).trans d0,(g.cell (p:=⟨w.heap.size+1,1,none⟩) z1).trans d1,(g.frozen (p:=⟨w.heap.size+1,0,none⟩) z1).trans (df 0),(g.frozen (p:=⟨w.heap.size+1,1,none⟩) z1).trans (df 1)⟩:_/\_/\_/\_)
 have g10:Grew w1 w1.drew:=(Grew.refl _).drew;have HG:=zQ0 g1;clear c0 c1 d0 d1 df gA gB g1
 go_region_held3 (fun w'=>Keeps (·=w.heap.size+1) w1 w') ((first | assumption | exact g10.keeps _ | exact Keeps.trans (by assumption) (Grew.keeps (by assumption) _) | (refine Keeps.own (Keeps.own ?_ _ _) _ _;assumption)))
  ((go_at_call 67;refine (CP.out _ (HG.out.trans g10)).mono ?_;rintro e w2 ⟨q,rfl,g2,hq,he⟩;have g12:=g10.trans g2))
 obtain⟨d0,d1,f0,f1⟩:=KD w2 g12;have hz:=g12.size;have GW:Grew w ((w2.setCell ⟨w.heap.size+1,0,none⟩ (.slice q.a q.l.length q.c)).setCell ⟨w.heap.size+1,1,none⟩ (.int .i64 p.o)):=((HG.out.trans g12).setCell (by show w.heap.size<=w.heap.size+1;omega) _).setCell (by show w.heap.size<=w.heap.size+1;omega) _;have r0:((w2.setCell ⟨w.heap.size+1,0,none⟩ (.slice q.a q.l.length q.c)).setCell ⟨w.heap.size+1,1,none⟩ (.int .i64 p.o)).cell? ⟨w.heap.size+1,0,none⟩=some (.slice q.a q.l.length q.c):=(zau (by decide)).trans (zaw d0);have r1:((w2.setCell ⟨w.heap.size+1,0,none⟩ (.slice q.a q.l.length q.c)).setCell ⟨w.heap.size+1,1,none⟩ (.int .i64 p.o)).cell? ⟨w.heap.size+1,1,none⟩=some (.int .i64 p.o):=zaw ((zau (by decide)).trans d1)
 have hq2:IntsIn ((w2.setCell ⟨w.heap.size+1,0,none⟩ (.slice q.a q.l.length q.c)).setCell ⟨w.heap.size+1,1,none⟩ (.int .i64 p.o)) w.heap.size ((w2.setCell ⟨w.heap.size+1,0,none⟩ (.slice q.a q.l.length q.c)).setCell ⟨w.heap.size+1,1,none⟩ (.int .i64 p.o)).heap.size q.a q.c q.l :=
  ((hq.agree (zaf (Or.inl (by have:=g10.size;show w.heap.size+1 < _;omega)))).agree (zaf (Or.inl (by have:=g10.size;show w.heap.size+1 < _;omega)))).mono (by have:=g10.size;omega) (by simp)
 generalize (w2.setCell ⟨w.heap.size+1,0,none⟩ (.slice q.a q.l.length q.c)).setCell ⟨w.heap.size+1,1,none⟩ (.int .i64 p.o)=W at *;clear KB KD;go_wp2_with fail
 exact bodyPost_ret (v:=.agg #[.slice q.a q.l.length q.c,.int .i64 p.o]) (by simp[results,Tryz.results200,go_sem,r0,r1]) rfl ⟨⟨q,p.o⟩,rfl,GW,hq2,by show _=_;rw[HPE.out];show PtE.mk q.l p.o=_;rw[he.out]⟩
theorem pointCmp_any(p q:PtL)(w:World)(hp:p.In w 0 w.heap.size)(hl:p.p.l.length<=1048576)(hq:q.In w 0 w.heap.size)(hl2:q.p.l.length<=1048576) :
  Calls Tryz.prog 101 #[.agg #[.slice p.p.a p.p.l.length p.p.c,.int .i64 p.o],.agg #[.slice q.p.a q.p.l.length q.p.c,.int .i64 q.o]] w fun e w'=>e=.returned (.int .i64 (ptCmp p.er q.er))/\Grew w w':=by
 have CT:=zQ0 (fun w1 (hg:Grew w w1)=>trailCmp_any p.p.a q.p.a p.p.c q.p.c p.p.l q.p.l w1 _ _ _ _ (hp.later hg) (hq.later hg) hl hl2);have HPE:Hid (ptCmp p.er q.er=orT [cmpP p.p.l q.p.l,cmpI p.o q.o]):=rfl;generalize cmpP p.p.l q.p.l=x at *;have CI:=zQ0 (cmpInt_any p.o q.o);generalize cmpI p.o q.o=y at *;have CO:=zQ0 (fun(w1 w2:World) (hag:Agree w1.heap.size (w1.heap.size+1) (w1.alloc (.cells #[.int .i64 x,.int .i64 y] 3)) w2)=>cmpOr_any (some ⟨w1.heap.size,0,none⟩) 2 [x,y] w2 w1.heap.size (w1.heap.size+1) ((intsIn_two w1 x y _).agree hag) (by simp));generalize orT [x,y]=r at *;generalize p.p.l=l at *;generalize q.p.l=m at *
 go_enter Tryz.func101,Tryz.ntmps101
 go_upto_region 1 with fail
 have gA:=Grew.alloc1 w (.cells #[.slice p.p.a l.length p.p.c,.int .i64 p.o] 29);have gB:=Grew.alloc1 (w.alloc (.cells #[.slice p.p.a l.length p.p.c,.int .i64 p.o] 29)) (.cells #[.slice q.p.a m.length q.p.c,.int .i64 q.o] 29);have c0:=zap gB (j:=0) (v:=.slice p.p.a l.length p.p.c) rfl;have c1:=zap gB (j:=1) (v:=.int .i64 p.o) rfl;have d0:=zap (Grew.refl ((w.alloc (.cells #[.slice p.p.a l.length p.p.c,.int .i64 p.o] 29)).alloc (.cells #[.slice q.p.a m.length q.p.c,.int .i64 q.o] 29))) (j:=0) (v:=.slice q.p.a m.length q.p.c) rfl;have d1:=zap (Grew.refl ((w.alloc (.cells #[.slice p.p.a l.length p.p.c,.int .i64 p.o] 29)).alloc (.cells #[.slice q.p.a m.length q.p.c,.int .i64 q.o] 29))) (j:=1) (v:=.int .i64 q.o) rfl;have z1:w.heap.size+1 < ((w.alloc (.cells #[.slice p.p.a l.length p.p.c,.int .i64 p.o] 29)).alloc (.cells #[.slice q.p.a m.length q.p.c,.int .i64 q.o] 29)).heap.size:=by simp
 simp only[World.size_alloc] at d0 d1;have g1:=gA.trans gB;generalize (w.alloc (.cells #[.slice p.p.a l.length p.p.c,.int .i64 p.o] 29)).alloc (.cells #[.slice q.p.a m.length q.p.c,.int .i64 q.o] 29)=w1 at *;have KB:=fun w' (g:Grew w1 w')=>(⟨(g.cell (p:=⟨w.heap.size,0,none⟩) (by show w.heap.size < _;omega)).trans c0,(g.cell (p:=⟨w.heap.size,1,none⟩) (by show w.heap.size < _;omega)).trans c1,(g.cell (p:=⟨w.heap.size+1,0,none⟩) z1).trans d0,(g.cell (p:=⟨w.heap.size+1,1,none⟩) z1).trans d1⟩:_/\_/\_/\_)
 have g10:Grew w1 w1.drew:=(Grew.refl _).drew;have HG:=zQ0 g1;clear c0 c1 d0 d1 gA gB g1
 go_region_held3 (fun w'=>Grew w1 w') ((first | assumption | exact Grew.trans (by assumption) (Grew.alloc1 _ _)))
  ((first | (go_at_call 142;refine (CT.out _ (HG.out.trans g10)).mono ?_;rintro e w2 ⟨rfl,rfl⟩) | (go_at_call 143;refine (CI.out _).mono ?_;rintro e w2 ⟨rfl,rfl⟩) | (go_at_call 141;refine (CO.out w1 (World.drew (w1.alloc (.cells #[.int .i64 x,.int .i64 y] 3))) (fun k _ _=>rfl)).mono ?_;rintro e w2 ⟨rfl,rfl⟩)))
 clear KB;go_wp2_with fail
 go_ret
 exact⟨zcz (by rw[HPE.out]),(HG.out.trans (Grew.alloc1 _ _)).drew⟩
theorem zb9(p q:PtL)(w:World)(hp:p.In w 0 w.heap.size)(hl:p.p.l.length<=1048576)(hq:q.In w 0 w.heap.size)(hl2:q.p.l.length<=1048576) :
  Calls Tryz.prog 48 #[.agg #[.slice p.p.a p.p.l.length p.p.c,.int .i64 p.o],.agg #[.slice q.p.a q.p.l.length q.p.c,.int .i64 q.o]] w fun e w'=>e=.returned (.bool (zcJ p.er q.er))/\Grew w w':=by
 have C:=zQ0 (fun w1 (hg:Grew w w1)=>pointCmp_any p q w1 (hp.later hg) hl (hq.later hg) hl2);have HS:=zQ0 (ptCmp_same p.er q.er);generalize ptCmp p.er q.er=r at *;generalize p.p.l=l at *;generalize q.p.l=m at *;have hg:=(Grew.alloc1 w (.cells #[.slice p.p.a l.length p.p.c,.int .i64 p.o] 29)).alloc (.cells #[.slice q.p.a m.length q.p.c,.int .i64 q.o] 29)
 go_enter Tryz.func48,Tryz.ntmps48
 go_wp2_with fail
 refine (C.out _ hg).mono ?_;rintro e w2 ⟨rfl,g2⟩;go_wp2_with fail
 go_ret
 exact⟨zcy (by rw[HS.out]),hg.trans g2⟩
theorem zc4{w w':World}{b o n:Nat}(h:w.there b o n)(hg:Grew w w')(hb:b < w.heap.size):w'.there b o n:=fun j hj=>by
 rw[hg.cell (p:=⟨b,o+j,none⟩) hb,hg.frozen (p:=⟨b,o+j,none⟩) hb];exact h j hj
theorem zaq(w:World)(cs:List Value)(tA:TypeId)(W:World)(hW:w.alloc (.cells cs.toArray tA)=W):Grew w W/\W.rangeAt w.heap.size 0 cs/\W.there w.heap.size 0 cs.length/\W.heap.size=w.heap.size+1:=by
 subst hW;refine⟨Grew.alloc1 _ _,fun j v hj=>?_,?_,by simp⟩
 ·rw[Nat.zero_add];exact zap (Grew.refl _) (by simpa using hj)
 ·have:=zc5 (Grew.refl (w.alloc (.cells cs.toArray tA)))
  rwa [List.size_toArray] at this
theorem zar(w:World)(cs ds:List Value)(tA tB:TypeId)(W:World)(hW:(w.alloc (.cells cs.toArray tA)).alloc (.cells ds.toArray tB)=W):Grew w W/\W.rangeAt w.heap.size 0 cs/\W.there w.heap.size 0 cs.length/\W.rangeAt (w.heap.size+1) 0 ds/\W.there (w.heap.size+1) 0 ds.length/\W.heap.size=w.heap.size+2:=by
 obtain⟨g1,r1,t1,z1⟩:=zaq w cs tA _ rfl;obtain⟨g2,r2,t2,z2⟩:=zaq _ ds tB _ hW;rw[z1] at r2 t2 z2;exact⟨g1.trans g2,zcj r1 g2 (by omega),fun j hj=>by rw[g2.cell (p:=⟨w.heap.size,0+j,none⟩) (by show w.heap.size < _;omega),g2.frozen (p:=⟨w.heap.size,0+j,none⟩) (by show w.heap.size < _;omega)];exact t1 j hj,r2,t2,z2⟩
theorem zas(w:World)(cs ds es:List Value)(tA tB tC:TypeId)(W:World)(hW:((w.alloc (.cells cs.toArray tA)).alloc (.cells ds.toArray tB)).alloc (.cells es.toArray tC)=W):Grew w W/\W.rangeAt w.heap.size 0 cs/\W.rangeAt (w.heap.size+1) 0 ds/\W.rangeAt (w.heap.size+2) 0 es/\W.there (w.heap.size+2) 0 es.length/\W.heap.size=w.heap.size+3:=by
 obtain⟨g1,r1,_,q1,_,z1⟩:=zar w cs ds tA tB _ rfl;obtain⟨g2,r2,t2,z2⟩:=zaq _ es tC _ hW;rw[z1] at r2 t2 z2;exact⟨g1.trans g2,zcj r1 g2 (by omega),zcj q1 g2 (by omega),r2,t2,z2⟩
theorem zcq{P:Program}{fn:Func}{p q:Tmp}{ty:TypeId}(h:fn.results=#[.cell p ty,.tmp q])(tmps:Array Value)(w:World)(b o:Nat)(cs:List Value)(d:TypeDesc)(v:Value)(hp:tmps.getD p undef=.pointer (some ⟨b,o,none⟩))(hq:tmps.getD q undef=v)(hc:w.rangeAt b o cs)(hu:P.underlying ty=some d)(hd:d.isRow=true)(hi:(P.info? ty).map (·.size)=some cs.length):(results fn tmps).run P w=.ok (.tuple #[.agg cs.toArray,v]) w:=by
 have hp':tmps[p]?.getD undef=.pointer (some ⟨b,o,none⟩):=by simpa using hp
 have hq':tmps[q]?.getD undef=v:=by simpa using hq
 simp[results,h,hp',hq',asAddr,run_loadVar_mid w b o ty cs d hc hu hd hi]
structure RefE where
 id:Int
 kind:Int
 aff:Int
 live:Bool
 path:List Int
 pt:PtE
 a:PtE
 f:PtE
structure RefL where
 id:Int
 kind:Int
 aff:Int
 live:Bool
 path:PN
 pt:PtL
 a:PtL
 f:PtL
def RefL.er(r:RefL):RefE:=⟨r.id,r.kind,r.aff,r.live,r.path.l,r.pt.er,r.a.er,r.f.er⟩
def RefE.nil:RefE:=⟨0,0,0,false,[],PtE.nil,PtE.nil,PtE.nil⟩
def RefL.nil:RefL:=⟨0,0,0,false,PN.nil,PtL.nil,PtL.nil,PtL.nil⟩
instance:Inhabited RefL:=⟨RefL.nil⟩
def RefL.cells(r:RefL):List Value:=[.int .i64 r.id,.int .i64 r.kind,.int .i64 r.aff,.bool r.live,.slice r.path.a r.path.l.length r.path.c,.slice r.pt.p.a r.pt.p.l.length r.pt.p.c,.int .i64 r.pt.o,.slice r.a.p.a r.a.p.l.length r.a.p.c,.int .i64 r.a.o,.slice r.f.p.a r.f.p.l.length r.f.p.c,.int .i64 r.f.o]
def RefL.val(r:RefL):Value:=.agg #[.int .i64 r.id,.int .i64 r.kind,.int .i64 r.aff,.bool r.live,.slice r.path.a r.path.l.length r.path.c,.slice r.pt.p.a r.pt.p.l.length r.pt.p.c,.int .i64 r.pt.o,.slice r.a.p.a r.a.p.l.length r.a.p.c,.int .i64 r.a.o,.slice r.f.p.a r.f.p.l.length r.f.p.c,.int .i64 r.f.o]
theorem RefL.cells_len(r:RefL):r.cells.length=11:=rfl
theorem RefL.cells_one(r:RefL):∀ u∈r.cells,u.oneCell'=true:=by
 intro u hu;simp only[RefL.cells,List.mem_cons,List.not_mem_nil,or_false] at hu
 rcases hu with rfl | rfl | rfl | rfl | rfl | rfl | rfl | rfl | rfl | rfl | rfl
 all_goals rfl
theorem RefL.cells_all(r:RefL):r.cells.toArray.all (·.oneCell')=true:=by
 rw[Array.all_eq_true_iff_forall_mem];intro v hv;exact r.cells_one v (by simpa using hv)
def RefL.In(w:World)(lo hi:Nat)(r:RefL):Prop:=IntsIn w lo hi r.path.a r.path.c r.path.l/\r.pt.In w lo hi/\r.a.In w lo hi/\r.f.In w lo hi
theorem RefL.In.agree{w w':World}{lo hi:Nat}{r:RefL}(h:r.In w lo hi)(hag:Agree lo hi w w'):r.In w' lo hi:=⟨h.1.agree hag,IntsIn.agree h.2.1 hag,IntsIn.agree h.2.2.1 hag,IntsIn.agree h.2.2.2 hag⟩
theorem RefL.In.mono{w:World}{lo hi lo' hi':Nat}{r:RefL}(h:r.In w lo hi)(h1:lo'<=lo)(h2:hi<=hi'):r.In w lo' hi':=⟨h.1.mono h1 h2,IntsIn.mono h.2.1 h1 h2,IntsIn.mono h.2.2.1 h1 h2,IntsIn.mono h.2.2.2 h1 h2⟩
theorem RefL.In.grew{w w':World}{lo hi:Nat}{r:RefL}(h:r.In w lo hi)(hg:Grew w w')(hB:hi<=w.heap.size):r.In w' lo hi:=h.agree (hg.agree hB)
theorem RefL.In.later{w w':World}{r:RefL}(h:r.In w 0 w.heap.size)(hg:Grew w w'):r.In w' 0 w'.heap.size:=(h.grew hg zQ1).mono zQ1 hg.size
theorem RefL.nil_in{w:World}{lo hi:Nat}:RefL.nil.In w lo hi:=⟨zbu,zbu,zbu,zbu⟩
def RefE.Small(r:RefE):Prop:=r.path.length<=1048576/\r.pt.p.length<=1048576/\r.a.p.length<=1048576/\r.f.p.length<=1048576
theorem zbq:(Tryz.prog.info? 46).map (·.size)=some 11:=by kernel_rfl
theorem infoRefF:(Tryz.prog.info? 46).map (fun i=>(i.zero,i.size,i.bytes))=some (some (.agg #[.int .i64 0,.int .i64 0,.int .i64 0,.bool false,.slice none 0 0,.slice none 0 0,.int .i64 0,.slice none 0 0,.int .i64 0,.slice none 0 0,.int .i64 0]),11,152):=by kernel_rfl
def RefRow(w:World)(lo hi:Nat)(a:Option Addr)(c:Nat)(L:List RefL):Prop:=RowIn w lo hi a L.length c 11 (fun i j=>(L.getD i default).cells.getD j undef)
def RefsIn(w:World)(a:Option Addr)(c:Nat)(L:List RefL):Prop:=RefRow w 0 w.heap.size a c L/\∀ r∈L,r.In w 0 w.heap.size
theorem RefsIn.grew{w w':World}{a:Option Addr}{c:Nat}{L:List RefL}(h:RefsIn w a c L)(hg:Grew w w'):RefsIn w' a c L :=
 ⟨(RowIn.agree h.1 (hg.agree zQ1)).mono zQ1 hg.size,fun r hr=>(h.2 r hr).later hg⟩
theorem RefRow.at{w:World}{lo hi:Nat}{a:Option Addr}{c:Nat}{L:List RefL}(h:RefRow w lo hi a c L){i:Nat}(hi':i < L.length):∃ b o,a=some ⟨b,o,none⟩/\lo<=b/\b < hi/\w.rangeAt b (o+i * 11) (L.getD i default).cells:=by
 obtain⟨b,o,ha,h1,h2,hc⟩:=h.2 (by omega);refine⟨b,o,ha,h1,h2,fun j v hj=>?_⟩;have hc':=fun j hj=>hc i hi' j hj
 dsimp only at hc'
 have hl:=RefL.cells_len (L.getD i default);generalize (L.getD i default).cells=cs at *;obtain⟨hjl,rfl⟩:=List.getElem?_eq_some_iff.1 hj;rw[hc' j (by omega),List.getD_eq_getElem?_getD,List.getElem?_eq_getElem hjl]
 rfl
end Go.Proofs.YtccobobnmpafbaaGreatDoor
