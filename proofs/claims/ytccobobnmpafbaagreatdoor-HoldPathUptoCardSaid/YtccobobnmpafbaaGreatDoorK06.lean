/- LISTS THAT ARE BUILT BY append: what is said of a world that lasts while own blocks are written; an own row of elements that lie elsewhere. No function is named here. -/
import Derived.Test.YtccobobnmpafbaaGreatDoorK02
import Derived.Deep.RegionHeld3
import Derived.Test.YtccobobnmpafbaaGreatDoorK03
import Derived.Test.YtccobobnmpafbaaGreatDoorK05
import Derived.Deep.DeepCutAuto
import Derived.Deep.MidRow
import Derived.Great.Walk
set_option maxRecDepth 100000
set_option maxHeartbeats 100000000
namespace Go.Proofs.YtccobobnmpafbaaGreatDoor
open Go Go.RowKit
def Safe(O:Nat->Prop)(w:World)(P:World->Prop):Prop:=∀ w',Keeps O w w'->P w'
theorem Safe.now{O:Nat->Prop}{w:World}{P:World->Prop}(h:Safe O w P):P w:=h w (Keeps.refl _ _)
theorem Safe.moves{O O':Nat->Prop}{w w':World}{P:World->Prop}(h:Safe O w P)(hm:Moves O w O' w'):Safe O' w' P:=fun w'' hk=>by
 have h2:Moves O' w' O' w'':=⟨hk,fun _ h=>Or.inl h⟩
 exact h w'' (hm.trans h2).1
theorem Safe.grew{O:Nat->Prop}{w w':World}{P:World->Prop}(h:Safe O w P)(hg:Grew w w'):Safe O w' P:=h.moves (Moves.grew hg)
theorem Safe.and{O:Nat->Prop}{w:World}{P Q:World->Prop}(h:Safe O w P)(k:Safe O w Q):Safe O w (fun w=>P w/\Q w):=fun w' hk=>⟨h w' hk,k w' hk⟩
theorem Safe.imp{O:Nat->Prop}{w:World}{P Q:World->Prop}(h:Safe O w P)(k:∀ w,P w->Q w):Safe O w Q:=fun w' hk=>k w' (h w' hk)
theorem Safe.row{O:Nat->Prop}{w:World}{lo hi:Nat}{a:Option Addr}{n c k:Nat}{f:Nat->Nat->Value}(h:RowIn w lo hi a n c k f)(hh:hi<=w.heap.size)(ho:∀ j,lo<=j->j < hi->¬ O j):Safe O w (fun w=>RowIn w 0 w.heap.size a n c k f) :=
 fun _ hk=>(h.agree (hk.agree hh ho)).mono (Nat.zero_le _) (Nat.le_trans hh hk.size)
theorem Safe.runes{O:Nat->Prop}{w:World}{lo hi:Nat}{a:Option Addr}{c:Nat}{ts:List Int}(h:RunesIn w lo hi a c ts)(hh:hi<=w.heap.size)(ho:∀ j,lo<=j->j < hi->¬ O j):Safe O w (fun w=>RunesIn w 0 w.heap.size a c ts) :=
 fun _ hk=>(h.agree (hk.agree hh ho)).mono (Nat.zero_le _) (Nat.le_trans hh hk.size)
theorem Safe.tree{O:Nat->Prop}{w:World}{lo hi:Nat}{n:NT}(h:n.In w lo hi)(hh:hi<=w.heap.size)(ho:∀ j,lo<=j->j < hi->¬ O j):Safe O w (fun w=>n.Ok w) :=
 fun _ hk=>(h.agree (hk.agree hh ho)).mono (Nat.zero_le _) (Nat.le_trans hh hk.size)
theorem Safe.old{O:Nat->Prop}{w:World}{P:World->Prop}(hO:∀ k,O k->w.heap.size<=k)(hP:∀ w',Grew w w'->P w'):Safe O w P:=fun w' hk=>hP w' (hk.below zQ1 (fun k h1 h2=>by have:=hO k h2;omega))
def zb4(v:Value)(k:Nat):Prop:=v.ownBlock=some k
theorem zb5{k:Nat}:¬ zb4 (.slice none 0 0) k:=fun h=>by cases h
section
variable {α:Type} [Inhabited α]
def Built(S:Nat->Prop)(t:TypeId)(k:Nat)(cells:α->List Value)(In:α->World->Prop)(B:Nat)(w:World)(v:Value)(L:List α):Prop :=
 w.ownsRow B t k v L.length (L.flatMap cells)/\∀ x∈L,Safe (fun j=>zb4 v j\/S j) w (In x)
variable {S:Nat->Prop} {t:TypeId} {k:Nat} {cells:α->List Value} {In:α->World->Prop} {B:Nat} {w w':World} {v v':Value} {L M:List α}
omit [Inhabited α] in
theorem Built.nil:Built S t k cells In B w (.slice none 0 0) ([]:List α):=⟨World.ownsRow_nil _ _ _ _,fun x hx=>by cases hx⟩
omit [Inhabited α] in
theorem Built.lt (h:Built S t k cells In B w v L):∀ j,zb4 v j->B<=j/\j < w.heap.size:=fun j hj=>h.1.lt j hj
omit [Inhabited α] in
theorem Built.grew (h:Built S t k cells In B w v L) (hg:Grew w w'):Built S t k cells In B w' v L:=⟨zcc h.1 hg,fun x hx=>(h.2 x hx).grew hg⟩
omit [Inhabited α] in
/-- stores into blocks of S -/
theorem Built.keeps (h:Built S t k cells In B w v L) (hk:Keeps S w w') (hd:∀ j,zb4 v j->¬ S j):Built S t k cells In B w' v L:=by
 refine⟨?_,fun x hx=>(h.2 x hx).moves ⟨hk.wider fun _ _ h=>Or.inr h,fun _ h=>Or.inl h⟩⟩;obtain⟨h1,h2⟩:=h.1;refine⟨h1,?_⟩
 rcases h2 with h2 | ⟨g,cap,cur,hv,hg2,hh,r⟩
 ·exact Or.inl h2
 ·have hlt:g < w.heap.size:=by
   rcases Nat.lt_or_ge g w.heap.size with h1 | h1
   ·exact h1
   ·rw[Array.getElem?_eq_none h1] at hh;cases hh
  exact Or.inr ⟨g,cap,cur,hv,hg2,(hk.block g hlt (hd g (by subst hv;rfl))).trans hh,r⟩
omit [Inhabited α] in
theorem Built.all (h:Built S t k cells In B w v L):∀ x∈L,In x w:=fun x hx=>(h.2 x hx).now
theorem Built.row(h:Built S t k cells In B w v L)(hk:∀ x,(cells x).length=k):∃ a c,v=.slice a L.length c/\RowIn w B w.heap.size a L.length c k (fun i j=>(cells (L.getD i default)).getD j undef):=by
 obtain⟨a,c,rfl⟩:=zb9 h.1;exact⟨a,c,rfl,(zb6 h.1 (flat_at hk L)).1⟩
omit [Inhabited α] in
/-- what is appended -/
theorem Built.push (h:Built S t k cells In B w v L) (hM:∀ x∈M,Safe (fun j=>zb4 v j\/S j) w (In x)) (h1:w'.ownsRow B t k v' (L.length+M.length) (L.flatMap cells++M.flatMap cells)) (h2:w.grownBy w' v.ownBlock) (h3:∀ j,v'.ownBlock=some j->v.ownBlock=some j\/w.heap.size<=j):Built S t k cells In B w' v' (L++M):=by
 have hm:Moves (fun j=>zb4 v j\/S j) w (fun j=>zb4 v' j\/S j) w':=⟨zbp h2 (fun j hj=>Or.inl hj),fun j hj=>by
  rcases hj with hj | hj
  ·exact (h3 j hj).imp_left Or.inl
  ·exact Or.inl (Or.inr hj)⟩
 refine⟨?_,fun x hx=>?_⟩
 ·rw[List.length_append,List.flatMap_append];exact h1
 ·rcases List.mem_append.1 hx with hx | hx
  ·exact (h.2 x hx).moves hm
  ·exact (hM x hx).moves hm
theorem zdo{P:Program}{ops:Array Oper}{rest:List Oper}{o:Oper}{a:Act}{Q:Exit->Act->World->Prop}(hgd:o.guard=none)(s x:Operand)(T:TypeId)(ho:o.op=.call { callee:=.builtin .append,args:=#[s,x],argTypes:=#[T,T] })(dst:Option Tmp)(hdst:o.dst=dst){z:Value}{bytes:Nat}(ht:P.underlying T=some (.slice t))(hinfo:(P.info? t).map (fun i=>(i.zero,i.size,i.bytes))=some (some z,k,bytes))(hzs:z.cells.size=k)(hsz:0 < k)(hb64:bytes<=1000)(hk:∀ x,(cells x).length=k)(h1c:∀ x,∀ u∈cells x,u.oneCell'=true)(v:Value)(L M:List α)(hs:a.eval s=v)(hB:Built S t k cells In B w v L)(xa:Option Addr)(c lo hi:Nat)(hx:a.eval x=.slice xa M.length c)(hrow:RowIn w lo hi xa M.length c k (fun i j=>(cells (M.getD i default)).getD j undef))(hM:∀ x∈M,Safe (fun j=>zb4 v j\/S j) w (In x))(h63:L.length+M.length<=4194304)(hbase:B<=w.heap.size)(h:∀ v' w',Built S t k cells In B w' v' (L++M)->Moves (zb4 v) w (zb4 v') w'->wpList P ops Q rest (a.put dst v') w'):wpList P ops Q (o::rest) a w:=by
 have hby:(L.length+M.length) * bytes<=140737488355328:=by
  have:=Nat.mul_le_mul h63 hb64;omega
 subst hdst
 exact zdr hgd s x T ho B t ht hinfo hzs hsz v L.length (L.flatMap cells) hs hB.1 xa M.length c lo hi _ hx hrow (M.flatMap cells) (flat_len hk M) (flat_at hk M) (flat_one h1c M) (by unfold maxLen;omega) hby hbase
  fun v' w' a1 a2 a3=>h v' w' (hB.push hM a1 a2 a3) ⟨zbp a2 fun j hj=>hj,a3⟩
theorem wp_append_built{P:Program}{o:Oper}{a:Act}{K:Act->World->Prop}{Q:Exit->Act->World->Prop}(hgd:o.guard=none)(s x:Operand)(T:TypeId)(ho:o.op=.call { callee:=.builtin .append,args:=#[s,x],argTypes:=#[T,T] })(dst:Option Tmp)(hdst:o.dst=dst){z:Value}{bytes:Nat}(ht:P.underlying T=some (.slice t))(hinfo:(P.info? t).map (fun i=>(i.zero,i.size,i.bytes))=some (some z,k,bytes))(hzs:z.cells.size=k)(hsz:0 < k)(hb64:bytes<=1000)(hk:∀ x,(cells x).length=k)(h1c:∀ x,∀ u∈cells x,u.oneCell'=true)(v:Value)(L M:List α)(hs:a.eval s=v)(hB:Built S t k cells In B w v L)(xa:Option Addr)(c lo hi:Nat)(hx:a.eval x=.slice xa M.length c)(hrow:RowIn w lo hi xa M.length c k (fun i j=>(cells (M.getD i default)).getD j undef))(hM:∀ x∈M,Safe (fun j=>zb4 v j\/S j) w (In x))(h63:L.length+M.length<=4194304)(hbase:B<=w.heap.size)(h:∀ v' w',Built S t k cells In B w' v' (L++M)->Moves (zb4 v) w (zb4 v') w'->K (a.put dst v') w'):Oper.wp P o a w K Q :=
 zb1 hgd fun _ hQ=>zdo hgd s x T ho dst hdst ht hinfo hzs hsz hb64 hk h1c v L M hs hB xa c lo hi hx hrow hM h63 hbase fun v' w' a1 a2=>wpList_nil (hQ _ _ (h v' w' a1 a2))
end
theorem Moves.keeps{O O':Nat->Prop}{a b:World}(h:Moves O a O' b):Keeps O a b:=h.1
theorem Safe.push{S:Nat->Prop}{v v':Value}{w w':World}{P:World->Prop}(h:Safe (fun j=>zb4 v j\/S j) w P)(hm:Moves (zb4 v) w (zb4 v') w'):Safe (fun j=>zb4 v' j\/S j) w' P :=
 h.moves ⟨hm.1.wider fun _ _ h=>Or.inl h,fun j hj=>by
  rcases hj with hj | hj
  ·exact (hm.2 j hj).imp_left Or.inl
  ·exact Or.inl (Or.inr hj)⟩
theorem Grew.stores{a b c:World}{S:Nat->Prop}(h:Grew a b)(hk:Keeps S b c)(hv:∀ j,S j->a.heap.size<=j):Grew a c:=h.keep hk hv
theorem Grew.own{a b c:World}{v:Value}{O:Nat->Prop}(h:Grew a b)(hk:Moves (zb4 v) b O c)(hv:∀ j,zb4 v j->a.heap.size<=j):Grew a c:=h.keep hk.1 hv
end Go.Proofs.YtccobobnmpafbaaGreatDoor
namespace Go.Proofs.YtccobobnmpafbaaGreatDoor
open Go Go.RowKit
def orT:List Int->Int
 | []=>0
 | x::r=>if x=0 then orT r else x
def ptCmp(a b:PtE):Int:=orT [cmpP a.p b.p,cmpI a.o b.o]
def zcO(a b:PtE):Bool:=decide (a.p=b.p) && decide (a.o=b.o)
theorem ptCmp_same(a b:PtE):(ptCmp a b == 0)=zcO a b:=by
 have h1:=cmpP_zero (x:=a.p) (y:=b.p);have h2:=cmpI_zero (x:=a.o) (y:=b.o);rw[Bool.eq_iff_iff];simp only[ptCmp,orT,zcO,beq_iff_eq,Bool.and_eq_true,decide_eq_true_iff]
 split
 ·rename_i h
  split
  ·rename_i h'
   exact⟨fun _=>⟨h1.1 h,h2.1 h'⟩,fun _=>rfl⟩
  ·rename_i h'
   exact⟨fun h3=>absurd h3 h',fun h3=>absurd (h2.2 h3.2) h'⟩
 ·rename_i h
  exact⟨fun h3=>absurd h3 h,fun h3=>absurd (h1.2 h3.1) h⟩
def PtL.cells(p:PtL):List Value:=[.slice p.p.a p.p.l.length p.p.c,.int .i64 p.o]
theorem PtL.In.grew{w w':World}{lo hi:Nat}{p:PtL}(h:p.In w lo hi)(hg:Grew w w')(hB:hi<=w.heap.size):p.In w' lo hi:=IntsIn.grew h hg hB
theorem PtL.In.mono{w:World}{lo hi lo' hi':Nat}{p:PtL}(h:p.In w lo hi)(h1:lo'<=lo)(h2:hi<=hi'):p.In w lo' hi':=IntsIn.mono h h1 h2
theorem PtL.In.later{w w':World}{p:PtL}(h:p.In w 0 w.heap.size)(hg:Grew w w'):p.In w' 0 w'.heap.size:=(h.grew hg zQ1).mono zQ1 hg.size
theorem cmpOr_any(a:Option Addr)(c:Nat)(l:List Int)(w:World)(lo hi:Nat)(hx:IntsIn w lo hi a c l)(hl:l.length<=1048576):Calls Tryz.prog 141 #[.slice a l.length c] w fun e w'=>e=.returned (.int .i64 (orT l))/\w=w':=by
 go_enter Tryz.func141,Tryz.ntmps141
 go_wp2_with fail
 go_loop [8] (fun i=>∃(k:Nat),k<=l.length/\i=.int .i64 k/\orT l=orT (l.drop k)) (fun i=>l.length - (intOf i).toNat)
 case atStart=>exact⟨0,by omega,rfl,by simp⟩
 case round =>
  obtain⟨k,hk,rfl,he⟩:=hrel;have HE:=zQ0 he;clear he
  by_cases hlt:k < l.length
  ·obtain⟨b1,o1,rfl,_,_,hc1⟩:=hx.at hlt
   have HS:Hid (orT (l.drop k)=if l.getD k 0=0 then orT (l.drop (k+1)) else l.getD k 0):=by
    show _=_
    rw[List.drop_eq_getElem_cons hlt,orT];simp[List.getD,hlt]
   generalize l.getD k 0=p at *
   by_cases h1:p=0
   ·have ht:(p != 0)=false:=by simp[h1]
    have HX:Hid (orT l=orT (l.drop (k+1))):=by show _=_;rw[HE.out,HS.out,if_pos h1]
    clear h1;go_wp2_with fail
    go_round
    case rel=>exact⟨k+1,by omega,by go_num,HX.out⟩
    case measure=>simp[intOf];omega
   ·have ht:(p != 0)=true:=by simpa using h1
    have HX:Hid (orT l=p):=by show _=_;rw[HE.out,HS.out,if_neg h1]
    clear h1;go_wp2_with fail
    go_ret
    exact⟨zcG (by rw[HX.out]),rfl⟩
  ·have HX:Hid (orT l=0):=by show _=_;rw[HE.out,List.drop_of_length_le (by omega)];rfl
   go_wp2_with fail
   go_ret
   exact⟨zcG (by rw[HX.out]),rfl⟩
theorem intsIn_two(w:World)(x y:Int)(t:TypeId):IntsIn (w.alloc (.cells #[.int .i64 x,.int .i64 y] t)) w.heap.size (w.heap.size+1) (some ⟨w.heap.size,0,none⟩) 2 [x,y] :=
 zcI (n:=2) (cp:=2) (k:=1) (f:=fun i _=>.int .i64 ([x,y].getD i 0)) zQ1 (by unfold maxLen;omega) (fun i hi j hj=>by
  obtain rfl:j=0:=by omega
  have hi':i=0\/i=1:=by omega
  rcases hi' with rfl | rfl <;> rfl)
theorem pointCmp_any(p q:PtL)(w:World)(hp:p.In w 0 w.heap.size)(hl:p.p.l.length<=1048576)(hq:q.In w 0 w.heap.size)(hl2:q.p.l.length<=1048576) :
  Calls Tryz.prog 101 #[.agg #[.slice p.p.a p.p.l.length p.p.c,.int .i64 p.o],.agg #[.slice q.p.a q.p.l.length q.p.c,.int .i64 q.o]] w fun e w'=>e=.returned (.int .i64 (ptCmp p.er q.er))/\Grew w w':=by
 have CT:=zQ0 (fun w1 (hg:Grew w w1)=>trailCmp_any p.p.a q.p.a p.p.c q.p.c p.p.l q.p.l w1 _ _ _ _ (hp.later hg) (hq.later hg) hl hl2);have HPE:Hid (ptCmp p.er q.er=orT [cmpP p.p.l q.p.l,cmpI p.o q.o]):=rfl;generalize cmpP p.p.l q.p.l=x at *;have CI:=zQ0 (cmpInt_any p.o q.o);generalize cmpI p.o q.o=y at *;have CO:=zQ0 (fun(w1 w2:World) (hag:Agree w1.heap.size (w1.heap.size+1) (w1.alloc (.cells #[.int .i64 x,.int .i64 y] 3)) w2)=>cmpOr_any (some ⟨w1.heap.size,0,none⟩) 2 [x,y] w2 w1.heap.size (w1.heap.size+1) ((intsIn_two w1 x y _).agree hag) (by simp));generalize orT [x,y]=r at *;generalize p.p.l=l at *;generalize q.p.l=m at *
 go_enter Tryz.func101,Tryz.ntmps101
 go_upto_region 1 with fail
 have gA:=Grew.alloc1 w (.cells #[.slice p.p.a l.length p.p.c,.int .i64 p.o] 29);have gB:=Grew.alloc1 (w.alloc (.cells #[.slice p.p.a l.length p.p.c,.int .i64 p.o] 29)) (.cells #[.slice q.p.a m.length q.p.c,.int .i64 q.o] 29);have c0:=zar gB (j:=0) (v:=.slice p.p.a l.length p.p.c) rfl;have c1:=zar gB (j:=1) (v:=.int .i64 p.o) rfl;have d0:=zar (Grew.refl ((w.alloc (.cells #[.slice p.p.a l.length p.p.c,.int .i64 p.o] 29)).alloc (.cells #[.slice q.p.a m.length q.p.c,.int .i64 q.o] 29))) (j:=0) (v:=.slice q.p.a m.length q.p.c) rfl;have d1:=zar (Grew.refl ((w.alloc (.cells #[.slice p.p.a l.length p.p.c,.int .i64 p.o] 29)).alloc (.cells #[.slice q.p.a m.length q.p.c,.int .i64 q.o] 29))) (j:=1) (v:=.int .i64 q.o) rfl;have z1:w.heap.size+1 < ((w.alloc (.cells #[.slice p.p.a l.length p.p.c,.int .i64 p.o] 29)).alloc (.cells #[.slice q.p.a m.length q.p.c,.int .i64 q.o] 29)).heap.size:=by simp
 simp only[World.size_alloc] at d0 d1;have g1:=gA.trans gB;generalize (w.alloc (.cells #[.slice p.p.a l.length p.p.c,.int .i64 p.o] 29)).alloc (.cells #[.slice q.p.a m.length q.p.c,.int .i64 q.o] 29)=w1 at *;have KB:=fun w' (g:Grew w1 w')=>(⟨(g.cell (p:=⟨w.heap.size,0,none⟩) (by show w.heap.size < _;omega)).trans c0,(g.cell (p:=⟨w.heap.size,1,none⟩) (by show w.heap.size < _;omega)).trans c1,(g.cell (p:=⟨w.heap.size+1,0,none⟩) z1).trans d0,(g.cell (p:=⟨w.heap.size+1,1,none⟩) z1).trans d1⟩:_/\_/\_/\_)
 have g10:Grew w1 w1.drew:=(Grew.refl _).drew;have HG:=zQ0 g1;clear c0 c1 d0 d1 gA gB g1
 go_region_held3 (fun w'=>Grew w1 w') ((first | assumption | exact Grew.trans (by assumption) (Grew.alloc1 _ _)))
  ((first | (go_at_call 142;refine (CT.out _ (HG.out.trans g10)).mono ?_;rintro e w2 ⟨rfl,rfl⟩) | (go_at_call 143;refine (CI.out _).mono ?_;rintro e w2 ⟨rfl,rfl⟩) | (go_at_call 141;refine (CO.out w1 (World.drew (w1.alloc (.cells #[.int .i64 x,.int .i64 y] 3))) (fun k _ _=>rfl)).mono ?_;rintro e w2 ⟨rfl,rfl⟩)))
 clear KB;go_wp2_with fail
 go_ret
 exact⟨zcG (by rw[HPE.out]),(HG.out.trans (Grew.alloc1 _ _)).drew⟩
theorem zci(p q:PtL)(w:World)(hp:p.In w 0 w.heap.size)(hl:p.p.l.length<=1048576)(hq:q.In w 0 w.heap.size)(hl2:q.p.l.length<=1048576) :
  Calls Tryz.prog 48 #[.agg #[.slice p.p.a p.p.l.length p.p.c,.int .i64 p.o],.agg #[.slice q.p.a q.p.l.length q.p.c,.int .i64 q.o]] w fun e w'=>e=.returned (.bool (zcO p.er q.er))/\Grew w w':=by
 have C:=zQ0 (fun w1 (hg:Grew w w1)=>pointCmp_any p q w1 (hp.later hg) hl (hq.later hg) hl2);have HS:=zQ0 (ptCmp_same p.er q.er);generalize ptCmp p.er q.er=r at *;generalize p.p.l=l at *;generalize q.p.l=m at *;have hg:=(Grew.alloc1 w (.cells #[.slice p.p.a l.length p.p.c,.int .i64 p.o] 29)).alloc (.cells #[.slice q.p.a m.length q.p.c,.int .i64 q.o] 29)
 go_enter Tryz.func48,Tryz.ntmps48
 go_wp2_with fail
 refine (C.out _ hg).mono ?_;rintro e w2 ⟨rfl,g2⟩;go_wp2_with fail
 go_ret
 exact⟨zcF (by rw[HS.out]),hg.trans g2⟩
theorem zc9{w w':World}{b o n:Nat}(h:w.there b o n)(hg:Grew w w')(hb:b < w.heap.size):w'.there b o n:=fun j hj=>by
 rw[hg.cell (p:=⟨b,o+j,none⟩) hb,hg.frozen (p:=⟨b,o+j,none⟩) hb];exact h j hj
theorem zas(w:World)(cs:List Value)(tA:TypeId)(W:World)(hW:w.alloc (.cells cs.toArray tA)=W):Grew w W/\W.rangeAt w.heap.size 0 cs/\W.there w.heap.size 0 cs.length/\W.heap.size=w.heap.size+1:=by
 subst hW;refine⟨Grew.alloc1 _ _,fun j v hj=>?_,?_,by simp⟩
 ·rw[Nat.zero_add];exact zar (Grew.refl _) (by simpa using hj)
 ·have:=zda (Grew.refl (w.alloc (.cells cs.toArray tA)))
  rwa [List.size_toArray] at this
theorem zat(w:World)(cs ds:List Value)(tA tB:TypeId)(W:World)(hW:(w.alloc (.cells cs.toArray tA)).alloc (.cells ds.toArray tB)=W):Grew w W/\W.rangeAt w.heap.size 0 cs/\W.there w.heap.size 0 cs.length/\W.rangeAt (w.heap.size+1) 0 ds/\W.there (w.heap.size+1) 0 ds.length/\W.heap.size=w.heap.size+2:=by
 obtain⟨g1,r1,t1,z1⟩:=zas w cs tA _ rfl;obtain⟨g2,r2,t2,z2⟩:=zas _ ds tB _ hW;rw[z1] at r2 t2 z2;exact⟨g1.trans g2,zcq r1 g2 (by omega),fun j hj=>by rw[g2.cell (p:=⟨w.heap.size,0+j,none⟩) (by show w.heap.size < _;omega),g2.frozen (p:=⟨w.heap.size,0+j,none⟩) (by show w.heap.size < _;omega)];exact t1 j hj,r2,t2,z2⟩
theorem zau(w:World)(cs ds es:List Value)(tA tB tC:TypeId)(W:World)(hW:((w.alloc (.cells cs.toArray tA)).alloc (.cells ds.toArray tB)).alloc (.cells es.toArray tC)=W):Grew w W/\W.rangeAt w.heap.size 0 cs/\W.rangeAt (w.heap.size+1) 0 ds/\W.rangeAt (w.heap.size+2) 0 es/\W.there (w.heap.size+2) 0 es.length/\W.heap.size=w.heap.size+3:=by
 obtain⟨g1,r1,_,q1,_,z1⟩:=zat w cs ds tA tB _ rfl;obtain⟨g2,r2,t2,z2⟩:=zas _ es tC _ hW;rw[z1] at r2 t2 z2;exact⟨g1.trans g2,zcq r1 g2 (by omega),zcq q1 g2 (by omega),r2,t2,z2⟩
theorem zcx{P:Program}{fn:Func}{p q:Tmp}{ty:TypeId}(h:fn.results=#[.cell p ty,.tmp q])(tmps:Array Value)(w:World)(b o:Nat)(cs:List Value)(d:TypeDesc)(v:Value)(hp:tmps.getD p undef=.pointer (some ⟨b,o,none⟩))(hq:tmps.getD q undef=v)(hc:w.rangeAt b o cs)(hu:P.underlying ty=some d)(hd:d.isRow=true)(hi:(P.info? ty).map (·.size)=some cs.length):(results fn tmps).run P w=.ok (.tuple #[.agg cs.toArray,v]) w:=by
 have hp':tmps[p]?.getD undef=.pointer (some ⟨b,o,none⟩):=by simpa using hp
 have hq':tmps[q]?.getD undef=v:=by simpa using hq
 simp[results,h,hp',hq',asAddr,run_loadVar_mid w b o ty cs d hc hu hd hi]
structure RefE where
 id:Int
 kind:Int
 aff:Int
 live:Bool
 path:List Int
 pt:PtE
 a:PtE
 f:PtE
structure RefL where
 id:Int
 kind:Int
 aff:Int
 live:Bool
 path:PN
 pt:PtL
 a:PtL
 f:PtL
def RefL.er(r:RefL):RefE:=⟨r.id,r.kind,r.aff,r.live,r.path.l,r.pt.er,r.a.er,r.f.er⟩
def RefE.nil:RefE:=⟨0,0,0,false,[],PtE.nil,PtE.nil,PtE.nil⟩
def RefL.nil:RefL:=⟨0,0,0,false,PN.nil,PtL.nil,PtL.nil,PtL.nil⟩
instance:Inhabited RefL:=⟨RefL.nil⟩
def RefL.cells(r:RefL):List Value:=[.int .i64 r.id,.int .i64 r.kind,.int .i64 r.aff,.bool r.live,.slice r.path.a r.path.l.length r.path.c,.slice r.pt.p.a r.pt.p.l.length r.pt.p.c,.int .i64 r.pt.o,.slice r.a.p.a r.a.p.l.length r.a.p.c,.int .i64 r.a.o,.slice r.f.p.a r.f.p.l.length r.f.p.c,.int .i64 r.f.o]
def RefL.val(r:RefL):Value:=.agg #[.int .i64 r.id,.int .i64 r.kind,.int .i64 r.aff,.bool r.live,.slice r.path.a r.path.l.length r.path.c,.slice r.pt.p.a r.pt.p.l.length r.pt.p.c,.int .i64 r.pt.o,.slice r.a.p.a r.a.p.l.length r.a.p.c,.int .i64 r.a.o,.slice r.f.p.a r.f.p.l.length r.f.p.c,.int .i64 r.f.o]
theorem RefL.cells_len(r:RefL):r.cells.length=11:=rfl
theorem RefL.cells_one(r:RefL):∀ u∈r.cells,u.oneCell'=true:=by
 intro u hu;simp only[RefL.cells,List.mem_cons,List.not_mem_nil,or_false] at hu
 rcases hu with rfl | rfl | rfl | rfl | rfl | rfl | rfl | rfl | rfl | rfl | rfl
 all_goals rfl
theorem RefL.cells_all(r:RefL):r.cells.toArray.all (·.oneCell')=true:=by
 rw[Array.all_eq_true_iff_forall_mem];intro v hv;exact r.cells_one v (by simpa using hv)
def RefL.In(w:World)(lo hi:Nat)(r:RefL):Prop:=IntsIn w lo hi r.path.a r.path.c r.path.l/\r.pt.In w lo hi/\r.a.In w lo hi/\r.f.In w lo hi
theorem RefL.In.agree{w w':World}{lo hi:Nat}{r:RefL}(h:r.In w lo hi)(hag:Agree lo hi w w'):r.In w' lo hi:=⟨h.1.agree hag,IntsIn.agree h.2.1 hag,IntsIn.agree h.2.2.1 hag,IntsIn.agree h.2.2.2 hag⟩
theorem RefL.In.mono{w:World}{lo hi lo' hi':Nat}{r:RefL}(h:r.In w lo hi)(h1:lo'<=lo)(h2:hi<=hi'):r.In w lo' hi':=⟨h.1.mono h1 h2,IntsIn.mono h.2.1 h1 h2,IntsIn.mono h.2.2.1 h1 h2,IntsIn.mono h.2.2.2 h1 h2⟩
theorem RefL.In.grew{w w':World}{lo hi:Nat}{r:RefL}(h:r.In w lo hi)(hg:Grew w w')(hB:hi<=w.heap.size):r.In w' lo hi:=h.agree (hg.agree hB)
theorem RefL.In.later{w w':World}{r:RefL}(h:r.In w 0 w.heap.size)(hg:Grew w w'):r.In w' 0 w'.heap.size:=(h.grew hg zQ1).mono zQ1 hg.size
theorem RefL.nil_in{w:World}{lo hi:Nat}:RefL.nil.In w lo hi:=⟨zby,zby,zby,zby⟩
def RefE.Small(r:RefE):Prop:=r.path.length<=1048576/\r.pt.p.length<=1048576/\r.a.p.length<=1048576/\r.f.p.length<=1048576
theorem zbu:(Tryz.prog.info? 46).map (·.size)=some 11:=by kernel_rfl
theorem infoRefF:(Tryz.prog.info? 46).map (fun i=>(i.zero,i.size,i.bytes))=some (some (.agg #[.int .i64 0,.int .i64 0,.int .i64 0,.bool false,.slice none 0 0,.slice none 0 0,.int .i64 0,.slice none 0 0,.int .i64 0,.slice none 0 0,.int .i64 0]),11,152):=by kernel_rfl
def RefRow(w:World)(lo hi:Nat)(a:Option Addr)(c:Nat)(L:List RefL):Prop:=RowIn w lo hi a L.length c 11 (fun i j=>(L.getD i default).cells.getD j undef)
def RefsIn(w:World)(a:Option Addr)(c:Nat)(L:List RefL):Prop:=RefRow w 0 w.heap.size a c L/\∀ r∈L,r.In w 0 w.heap.size
theorem RefsIn.grew{w w':World}{a:Option Addr}{c:Nat}{L:List RefL}(h:RefsIn w a c L)(hg:Grew w w'):RefsIn w' a c L :=
 ⟨(RowIn.agree h.1 (hg.agree zQ1)).mono zQ1 hg.size,fun r hr=>(h.2 r hr).later hg⟩
theorem RefRow.at{w:World}{lo hi:Nat}{a:Option Addr}{c:Nat}{L:List RefL}(h:RefRow w lo hi a c L){i:Nat}(hi':i < L.length):∃ b o,a=some ⟨b,o,none⟩/\lo<=b/\b < hi/\w.rangeAt b (o+i * 11) (L.getD i default).cells:=by
 obtain⟨b,o,ha,h1,h2,hc⟩:=h.2 (by omega);refine⟨b,o,ha,h1,h2,fun j v hj=>?_⟩;have hc':=fun j hj=>hc i hi' j hj
 dsimp only at hc'
 have hl:=RefL.cells_len (L.getD i default);generalize (L.getD i default).cells=cs at *;obtain⟨hjl,rfl⟩:=List.getElem?_eq_some_iff.1 hj;rw[hc' j (by omega),List.getD_eq_getElem?_getD,List.getElem?_eq_getElem hjl]
 rfl
end Go.Proofs.YtccobobnmpafbaaGreatDoor
