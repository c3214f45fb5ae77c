/- LABELLED TREES IN MEMORY: a ghost is a block of three cells of its own (its number stands where a located tree keeps the spare room of its properties), and two rows of its own; all blocks of a tree of ghosts are different ones. -/
import Derived.Test.YtbhbekocmpmjfaaGreatDoorK35
import Derived.Test.YtbhbekocmpmjfaaGreatDoorK05
import Derived.Test.YtbhbekocmpmjfaaGreatDoorK16
import Derived.Test.YtbhbekocmpmjfaaGreatDoorK04
set_option maxRecDepth 100000
set_option maxHeartbeats 100000000
namespace Go.Proofs.YtbhbekocmpmjfaaGreatDoor
open Go Go.RowKit
def ptrV(k:NT):Value:=.pointer (some ⟨k.pc,0,none⟩)
def NT.gcells(x:NT):List Value:=[.int .i64 (x.ts.headD 0),.slice x.ta x.ts.tail.length x.tc,.slice x.ka x.ks.length x.kc]
def NT.runesV(x:NT):Value:=.slice x.ta x.ts.tail.length x.tc
def NT.kidsV(x:NT):Value:=.slice x.ka x.ks.length x.kc
structure NT.GOwn (w:World) (x:NT):Prop where
 cells:w.rangeAt x.pc 0 x.gcells
 there:w.there x.pc 0 3
 runes:w.ownsRow 0 3 1 x.runesV x.ts.tail.length (x.ts.tail.map (Value.int .i64))
 kids:w.ownsRow 0 43 1 x.kidsV x.ks.length (x.ks.map ptrV)
 hts:x.ts≠[]
 lf:x.lf=false
 ps:x.ps=[]
inductive NT.G (w:World):NT→Prop
 | mk (x:NT) (own:x.GOwn w) (all:∀ k∈x.ks,NT.G w k):NT.G w x
theorem NT.G.own{w:World}{x:NT}(h:x.G w):x.GOwn w:=by cases h;assumption
theorem NT.G.all{w:World}{x:NT}(h:x.G w):∀ k∈x.ks,k.G w:=by cases h;assumption
def ownL(v:Value):List Nat:=match v.ownBlock with
 | some b=>[b]
 | none=>[]
theorem mem_ownL{v:Value}{b:Nat}:b∈ownL v ↔ zb1 v b:=by
 unfold ownL zb1
 cases v.ownBlock with
 | none=>simp
 | some c =>
  simp only[List.mem_singleton,Option.some.injEq];exact⟨fun h=>h.symm,fun h=>h.symm⟩
def NT.ob(x:NT):List Nat:=x.pc::(ownL x.runesV++ownL x.kidsV)
mutual
/-- the blocks of a tree of ghosts -/
def NT.gb:NT→List Nat
 | .mk lf pa pc ps ta tc ts ka kc ks=>(NT.mk lf pa pc ps ta tc ts ka kc ks).ob++NT.gbs ks
def NT.gbs:List NT→List Nat
 | []=>[]
 | k::r=>NT.gb k++NT.gbs r
end
theorem NT.gb_eq(x:NT):x.gb=x.ob++NT.gbs x.ks:=by cases x;rw[NT.gb];rfl
theorem NT.gbs_app(a b:List NT):NT.gbs (a++b)=NT.gbs a++NT.gbs b:=by
 induction a with
 | nil=>rfl
 | cons k r ih=>rw[List.cons_append,NT.gbs,NT.gbs,ih,List.append_assoc]
theorem NT.mem_gbs{l:List NT}{k:NT}(hk:k∈l){b:Nat}(hb:b∈k.gb):b∈NT.gbs l:=by
 induction l with
 | nil=>cases hk
 | cons x r ih =>
  rw[NT.gbs]
  rcases List.mem_cons.1 hk with rfl | hk
  ·exact List.mem_append_left _ hb
  ·exact List.mem_append_right _ (ih hk)
theorem zca{S:Nat→Prop}{w w':World}{B k n:Nat}{t:TypeId}{v:Value}{xs:List Value}(h:w.ownsRow B t k v n xs)(hk:Keeps S w w')(hd:∀ j,zb1 v j→¬ S j):w'.ownsRow B t k v n xs:=by
 obtain⟨h1,h2⟩:=h;refine⟨h1,?_⟩
 rcases h2 with h2 | ⟨g,cap,cur,hv,hg2,hh,r⟩
 ·exact Or.inl h2
 ·have hlt:g < w.heap.size:=by
   rcases Nat.lt_or_ge g w.heap.size with h1 | h1
   ·exact h1
   ·rw[Array.getElem?_eq_none h1] at hh;cases hh
  exact Or.inr ⟨g,cap,cur,hv,hg2,(hk.block g hlt (hd g (by subst hv;rfl))).trans hh,r⟩
theorem there_keeps{w w':World}{O:Nat→Prop}{b o n:Nat}(h:w.there b o n)(hk:Keeps O w w')(hb:b < w.heap.size)(hO:¬ O b):w'.there b o n:=fun j hj=>by
 obtain⟨q1,q2⟩:=h j hj;exact⟨by rw[hk.cell (p:=⟨b,o+j,none⟩) hb hO];exact q1,by rw[hk.frozen (p:=⟨b,o+j,none⟩) hb hO];exact q2⟩
theorem NT.GOwn.keeps{O:Nat→Prop}{w w':World}{x:NT}(h:x.GOwn w)(hk:Keeps O w w')(hO:∀ b∈x.ob,¬ O b)(hlt:∀ b∈x.ob,b < w.heap.size):x.GOwn w':=by
 have hp:=hO x.pc (List.mem_cons_self ..);have hl:=hlt x.pc (List.mem_cons_self ..);refine⟨zcp h.cells hk hl hp,there_keeps h.there hk hl hp,zca h.runes hk (fun j hj=>hO j ?_),zca h.kids hk (fun j hj=>hO j ?_),h.hts,h.lf,h.ps⟩
 ·exact List.mem_cons_of_mem _ (List.mem_append_left _ (mem_ownL.2 hj))
 ·exact List.mem_cons_of_mem _ (List.mem_append_right _ (mem_ownL.2 hj))
theorem NT.G.keeps{O:Nat→Prop}{w w':World}(hk:Keeps O w w'):∀ {x:NT},x.G w→(∀ b∈x.gb,¬ O b)→(∀ b∈x.gb,b < w.heap.size)→x.G w':=by
 intro x
 induction x using NT.ind with
 | h x ih =>
  intro h hO hlt;rw[NT.gb_eq] at hO hlt;refine⟨x,h.own.keeps hk (fun b hb=>hO b (List.mem_append_left _ hb)) (fun b hb=>hlt b (List.mem_append_left _ hb)),fun k hk'=>ih k hk' (h.all k hk') (fun b hb=>hO b (List.mem_append_right _ (NT.mem_gbs hk' hb))) (fun b hb=>hlt b (List.mem_append_right _ (NT.mem_gbs hk' hb)))⟩
structure NT.GOk (w:World) (x:NT):Prop where
 g:x.G w
 nd:x.gb.Nodup
 lt:∀ b∈x.gb,b < w.heap.size
theorem NT.GOk.keeps{O:Nat→Prop}{w w':World}{x:NT}(h:x.GOk w)(hk:Keeps O w w')(hO:∀ b∈x.gb,¬ O b):x.GOk w':=⟨h.g.keeps hk hO h.lt,h.nd,fun b hb=>Nat.lt_of_lt_of_le (h.lt b hb) hk.size⟩
theorem NT.GOk.grew{w w':World}{x:NT}(h:x.GOk w)(hg:Grew w w'):x.GOk w':=h.keeps (O:=fun j=>w.heap.size≤j) (hg.keeps _) (fun b hb=>Nat.not_le.2 (h.lt b hb))
theorem NT.GOk.kid{w:World}{x k:NT}(h:x.GOk w)(hk:k∈x.ks):k.GOk w:=by
 have hs:k.gb.Sublist (NT.gbs x.ks):=by
  generalize x.ks=l at hk
  induction l with
  | nil=>cases hk
  | cons y r ih =>
   rw[NT.gbs]
   rcases List.mem_cons.1 hk with rfl | hk
   ·exact List.sublist_append_left _ _
   ·exact (ih hk).trans (List.sublist_append_right _ _)
 have hnd:=h.nd;rw[NT.gb_eq] at hnd;exact⟨h.g.all k hk,(List.nodup_append.1 hnd).2.1.sublist hs,fun b hb=>h.lt b (by rw[NT.gb_eq];exact List.mem_append_right _ (hs.subset hb))⟩
theorem NT.gbs_get{l:List NT}{i:Nat}(hi:i < l.length):(NT.gbs l).Perm ((l.getD i default).gb++NT.gbs (l.eraseIdx i)):=by
 induction l generalizing i with
 | nil=>exact absurd hi (Nat.not_lt_zero _)
 | cons k r ih =>
  cases i with
  | zero=>exact List.Perm.refl _
  | succ i =>
   rw[List.getD_cons_succ,List.eraseIdx_cons_succ,NT.gbs,NT.gbs];refine ((ih (by simpa using hi)).append_left k.gb).trans ?_;rw[← List.append_assoc,← List.append_assoc];exact (List.perm_append_comm).append_right _
theorem NT.gbs_set{l:List NT}{i:Nat}(hi:i < l.length)(y:NT):(NT.gbs (l.set i y)).Perm (y.gb++NT.gbs (l.eraseIdx i)):=by
 have h:=NT.gbs_get (l:=l.set i y) (i:=i) (by rw[List.length_set];exact hi);have h1:(l.set i y).getD i default=y:=by simp[List.getD,hi]
 have h2:(l.set i y).eraseIdx i=l.eraseIdx i:=by rw[List.eraseIdx_set_eq]
 rw[h1,h2] at h;exact h
theorem NT.setAt_cons(y x:NT)(i:Int)(r:List Int):NT.setAt y x (i::r)=.mk x.lf x.pa x.pc x.ps x.ta x.tc x.ts x.ka x.kc (x.ks.set i.toNat (NT.setAt y (x.ks.getD i.toNat default) r)):=rfl
theorem NT.gb_split{t:T}:∀ {p:List Int} {x:NT},x.er.at p=some t→∃ rest,x.gb.Perm ((x.sub p).gb++rest)∧∀ y':NT,y'.pc=(x.sub p).pc→(NT.setAt y' x p).gb.Perm (y'.gb++rest)∧(NT.setAt y' x p).pc=x.pc:=by
 intro p
 induction p with
 | nil =>
  intro x _;exact⟨[],by rw[List.append_nil];exact List.Perm.refl _,fun y' h=>⟨by rw[List.append_nil];exact List.Perm.refl _,h⟩⟩
 | cons i r ih =>
  intro x h;obtain⟨h0,h1,h2⟩:=T.at_of h;rw[NT.er_ks,List.length_map] at h1;rw[NT.er_ks,← za2] at h2;obtain⟨rest,hp,hy⟩:=ih h2;have hi:i.toNat < x.ks.length:=by omega
  have perm:∀(a b c d:List Nat),(a++(b++c++d)).Perm (b++(a++(c++d))):=fun a b c d=>by
   rw[List.append_assoc b c d,← List.append_assoc a b,← List.append_assoc b a];exact (List.perm_append_comm).append_right _
  refine⟨x.ob++(rest++NT.gbs (x.ks.eraseIdx i.toNat)),?_,fun y' hpc=>⟨?_,rfl⟩⟩
  ·rw[NT.gb_eq,NT.sub];refine (((NT.gbs_get hi).trans (hp.append_right _)).append_left x.ob).trans ?_;exact perm _ _ _ _
  ·obtain⟨q1,q2⟩:=hy y' hpc;rw[NT.setAt_cons,NT.gb_eq]
   have hob:(NT.mk x.lf x.pa x.pc x.ps x.ta x.tc x.ts x.ka x.kc (x.ks.set i.toNat (NT.setAt y' (x.ks.getD i.toNat default) r))).ob=x.ob:=by
    unfold NT.ob NT.runesV NT.kidsV
    simp
   rw[hob];refine ((NT.gbs_set hi _).append_left x.ob).trans ?_;refine ((q1.append_right _).append_left x.ob).trans ?_;exact perm _ _ _ _
theorem NT.GOwn.setKid{w:World}{x:NT}(h:x.GOwn w){i:Nat}{y:NT}(hpc:y.pc=(x.ks.getD i default).pc):(NT.mk x.lf x.pa x.pc x.ps x.ta x.tc x.ts x.ka x.kc (x.ks.set i y)).GOwn w:=by
 have hm:(x.ks.set i y).map ptrV=x.ks.map ptrV:=by
  apply List.ext_getElem
  ·simp
  ·intro j h1 h2;simp only[List.length_map,List.length_set] at h1 h2;rw[List.getElem_map,List.getElem_map,List.getElem_set]
   split
   ·rename_i e
    subst e;unfold ptrV;rw[hpc,List.getD,List.getElem?_eq_getElem h2];rfl
   ·rfl
 refine⟨?_,h.there,h.runes,?_,h.hts,h.lf,h.ps⟩
 ·have:=h.cells;unfold NT.gcells at this ⊢
  simpa using this
 ·have:=h.kids;unfold NT.kidsV at this ⊢;simp only[NT.ka_mk,NT.kc_mk,NT.ks_mk,List.length_set,hm] at this ⊢;exact this
theorem NT.GOk.put{O:Nat→Prop}{w w':World}(hk:Keeps O w w'){F:List Nat}{y':NT}{t:T}:∀ {p:List Int} {x:NT},x.GOk w→x.er.at p=some t→(∀ j,O j→j∈(x.sub p).gb∨w.heap.size≤j∨j∈F)→y'.pc=(x.sub p).pc→y'.GOk w' →
  (∀ b∈y'.gb,b∈(x.sub p).gb∨w.heap.size≤b∨b∈F)→(∀ b∈F,b ∉ x.gb)→(NT.setAt y' x p).GOk w':=by
 intro p x hx hat hO hpc hy hb hF;obtain⟨rest,hp1,hp2⟩:=NT.gb_split hat;obtain⟨q1,q2⟩:=hp2 y' hpc;have hnd:=hp1.nodup_iff.1 hx.nd;obtain⟨hn1,hnr,hdis⟩:=List.nodup_append.1 hnd;have hrl:∀ b∈rest,b < w.heap.size:=fun b hb=>hx.lt b (hp1.mem_iff.2 (List.mem_append_right _ hb));refine⟨?_,?_,?_⟩
 ·-- the cells
  clear hp1 hp2 q1 q2 hnd hnr hn1 hdis hrl rest
  induction p generalizing x with
  | nil=>exact hy.g
  | cons i r ih =>
   obtain⟨h0,h1,h2⟩:=T.at_of hat;rw[NT.er_ks,List.length_map] at h1;rw[NT.er_ks,← za2] at h2;have hi:i.toNat < x.ks.length:=by omega
   have hmem:x.ks.getD i.toNat default∈x.ks:=by
    rw[List.getD,List.getElem?_eq_getElem hi];exact List.getElem_mem hi
   have hkok:=hx.kid hmem;obtain⟨rk,hk1,hk2⟩:=NT.gb_split h2;have hsub:∀ b,b∈(x.sub (i::r)).gb→b∈(x.ks.getD i.toNat default).gb:=fun b hb=>hk1.mem_iff.2 (List.mem_append_left _ hb);have hxnd:=hx.nd;rw[NT.gb_eq] at hxnd;have hper:=NT.gbs_get hi;obtain⟨_,hn2,hd2⟩:=List.nodup_append.1 hxnd;have hn3:=hper.nodup_iff.1 hn2;obtain⟨_,_,hd3⟩:=List.nodup_append.1 hn3
   have hobO:∀ b∈x.ob,¬ O b:=fun b hb hob=>by
    rcases hO b hob with h | h | h
    ·exact hd2 b hb b (NT.mem_gbs hmem (hsub b h)) rfl
    ·have:=hx.lt b (by rw[NT.gb_eq];exact List.mem_append_left _ hb);omega
    ·exact hF b h (by rw[NT.gb_eq];exact List.mem_append_left _ hb)
   have hown:=hx.g.own.keeps hk hobO (fun b hb=>hx.lt b (by rw[NT.gb_eq];exact List.mem_append_left _ hb));have hpk:(NT.setAt y' (x.ks.getD i.toNat default) r).pc=(x.ks.getD i.toNat default).pc:=(hk2 y' hpc).2;rw[NT.setAt_cons];refine⟨_,hown.setKid hpk,fun k hkm=>?_⟩;have hkm:k∈x.ks.set i.toNat (NT.setAt y' (x.ks.getD i.toNat default) r):=hkm;rw[List.mem_iff_getElem] at hkm;obtain⟨j,hj,rfl⟩:=hkm;rw[List.length_set] at hj;rw[List.getElem_set]
   split
   ·refine ih hkok h2 (fun j hj=>?_) hpc (fun b hb'=>hb b hb') (fun b hb' hm=>hF b hb' (by rw[NT.gb_eq];exact List.mem_append_right _ (NT.mem_gbs hmem hm)));exact hO j hj
   ·rename_i hne
    have hmem2:x.ks[j]∈x.ks.eraseIdx i.toNat:=by
     rw[List.mem_eraseIdx_iff_getElem];exact⟨j,hj,fun e=>hne e.symm,rfl⟩
    refine (hx.kid (List.getElem_mem hj)).g.keeps hk (fun b hb' hob=>?_) (hx.kid (List.getElem_mem hj)).lt
    rcases hO b hob with h | h | h
    ·exact hd3 b (hsub b h) b (NT.mem_gbs hmem2 hb') rfl
    ·have:=(hx.kid (List.getElem_mem hj)).lt b hb';omega
    ·exact hF b h (by rw[NT.gb_eq];exact List.mem_append_right _ (NT.mem_gbs (List.getElem_mem hj) hb'))
 ·refine q1.nodup_iff.2 (List.nodup_append.2 ⟨hy.nd,hnr,fun a ha b hbr e=>?_⟩);subst e
  rcases hb a ha with h | h | h
  ·exact hdis a h a hbr rfl
  ·have:=hrl a hbr;omega
  ·exact hF a h (hp1.mem_iff.2 (List.mem_append_right _ hbr))
 ·intro b hb'
  rcases List.mem_append.1 (q1.mem_iff.1 hb') with h | h
  ·exact hy.lt b h
  ·exact Nat.lt_of_lt_of_le (hrl b h) hk.size
theorem owns_at{w:World}{t:TypeId}{a:Option Addr}{n c:Nat}{xs:List Value}(h:w.ownsRow 0 t 1 (.slice a n c) n xs){m:Nat}(hm:m < n):∃ b,a=some ⟨b,0,none⟩∧b < w.heap.size∧w.cell? ⟨b,m,none⟩=some (xs.getD m undef):=by
 have hl:xs.length=n:=by have:=h.1;omega
 rcases h.2 with ⟨_,h0⟩ | ⟨g,cap,cur,hv,_,hh,_⟩
 ·omega
 ·have ha:a=some ⟨g,0,none⟩:=by injection hv
  have hr:=(zb3 (f:=fun i _=>xs.getD i undef) h (fun i hi j hj=>by
   obtain rfl:j=0:=by omega
   simp[List.getD,List.getElem?_eq_getElem (show i < xs.length by omega)])).1
  obtain⟨b,o,e,_,hb,hc⟩:=hr.2 (by omega);rw[ha] at e;injection e with e
  injection e with e1 e2
  subst e1 e2;have:=hc m hm 0 (by omega);exact⟨g,ha,hb,by simpa using this⟩
theorem NT.GOwn.kid_at{w:World}{x:NT}(h:x.GOwn w){m:Nat}(hm:m < x.ks.length):∃ b,x.ka=some ⟨b,0,none⟩∧b < w.heap.size∧w.cell? ⟨b,m,none⟩=some (ptrV (x.ks.getD m default)):=by
 obtain⟨b,h1,h2,h3⟩:=owns_at h.kids hm;refine⟨b,h1,h2,?_⟩;rw[h3]
 simp[List.getD,List.getElem?_eq_getElem hm]
theorem NT.GOwn.at{w:World}{x:NT}(h:x.GOwn w):w.cell? ⟨x.pc,0,none⟩=some (.int .i64 (x.ts.headD 0))∧w.cell? ⟨x.pc,1,none⟩=some (.slice x.ta x.ts.tail.length x.tc)∧w.cell? ⟨x.pc,2,none⟩=some (.slice x.ka x.ks.length x.kc) :=
 ⟨zcn h.cells (j:=0) rfl,zcn h.cells (j:=1) rfl,zcn h.cells (j:=2) rfl⟩
theorem NT.G.sub{w:World}{t:T}:∀ {p:List Int} {x:NT},x.G w→x.er.at p=some t→(x.sub p).G w:=by
 intro p
 induction p with
 | nil=>intro x h _;exact h
 | cons i r ih =>
  intro x h e;obtain⟨h0,h1,h2⟩:=T.at_of e;rw[NT.er_ks,List.length_map] at h1;rw[NT.er_ks,← za2] at h2;exact ih (h.all _ (zbi x.ks i.toNat (by omega))) h2
theorem za8(x:NT){t:T}(pa:Option Addr)(pc:Nat)(p:List Int)(w:World)(hx:x.G w)(hp:IntsIn w 0 w.heap.size pa pc p)(hat:x.er.at p=some t)(hl:p.length≤1048576) :
  Calls Tryz.prog 27 #[.pointer (some ⟨x.pc,0,none⟩),.slice pa p.length pc] w fun e w'=>e=.returned (.pointer (some ⟨(x.sub p).pc,0,none⟩))∧w'=w:=by
 go_enter Tryz.func27,Tryz.ntmps27
 go_wp2_with fail
 go_loop [0,9] (fun v i=>∃(k:Nat) (y:NT),k≤p.length∧i=.int .i64 k∧v=.pointer (some ⟨y.pc,0,none⟩)∧Hid (y.G w)∧Hid (y.er.at (p.drop k)=some t)∧Hid (x.sub p=y.sub (p.drop k))) (fun _ i=>p.length - (intOf i).toNat)
 case atStart=>exact⟨0,x,by omega,rfl,rfl,hx,(by show _=_;exact hat),(by show _=_;rfl)⟩
 case round =>
  obtain⟨k,y,hk1,rfl,rfl,hY,hA,hS⟩:=hrel;clear hx hat
  by_cases hlt:k < p.length
  ·obtain⟨pb,po,rfl,_,hpb,hpc⟩:=hp.at hlt;have hD:=za0 p k hlt;have e0:p.getD k default=p.getD k 0:=rfl;rw[e0] at hD;generalize p.getD k 0=i at *;have hA':=hA.out;rw[hD] at hA';obtain⟨h0,h1,h2⟩:=T.at_of hA';rw[NT.er_ks,List.length_map] at h1;rw[NT.er_ks,← za2] at h2;obtain⟨m,rfl⟩:∃ m:Nat,i=m:=⟨i.toNat,by omega⟩
   have hm:m < y.ks.length:=by omega
   rw[Int.toNat_natCast] at h2;obtain⟨_,_,c2⟩:=hY.out.own.at;obtain⟨kb,hka,hkb,hkc⟩:=hY.out.own.kid_at hm;rw[hka] at c2;have HN:=zQ0 (hY.out.all _ (zbi y.ks m hm));have HA:=zQ0 h2
   have HS:Hid (x.sub p=(y.ks.getD m default).sub (p.drop (k+1))):=by
    show _=_
    rw[hS.out,hD,NT.sub];rfl
   unfold ptrV at hkc;clear hD e0 hA hA' hS h2 hka h0;generalize y.ks.getD m default=z at *;have ht:decide ((m:Int) < 0)=false:=by simp
   have ht2:decide ((y.ks.length:Int)≤(m:Int))=false:=by simp;omega
   have hm2:(m:Int) < y.ks.length:=by omega
   go_wp2_with fail
   go_round
   case rel=>exact⟨k+1,z,by omega,by go_num,rfl,HN,HA,HS⟩
   case measure=>simp[intOf];omega
  ·obtain rfl:p.length=k:=by omega
   have HR:Hid (x.sub p=y):=by show _=_;rw[hS.out,List.drop_length];rfl
   clear hY hA hS;go_wp2_with fail
   go_ret
   exact⟨by rw[HR.out];rfl,rfl⟩
theorem ptr_len(k:NT):[ptrV k].length=1:=rfl
theorem infoPtr:(Tryz.prog.info? 43).map (fun i=>(i.zero,i.size,i.bytes))=some (some (.pointer none),1,8):=by kernel_rfl
abbrev zad (S:Nat→Prop) (B:Nat) (w:World) (v:Value) (L:List NT):Prop:=Built S 43 1 (fun k:NT=>[ptrV k]) (fun _ _=>True) B w v L
def PtrRow(w:World)(a:Option Addr)(c:Nat)(L:List NT):Prop:=RowIn w 0 w.heap.size a L.length c 1 (fun i j=>([ptrV (L.getD i default)]:List Value).getD j undef)
theorem NT.GOwn.row{w:World}{x:NT}(h:x.GOwn w):PtrRow w x.ka x.kc x.ks :=
 (zb3 (f:=fun i j=>([ptrV (x.ks.getD i default)]:List Value).getD j undef) h.kids (fun i hi j hj=>by
  obtain rfl:j=0:=by omega
  simp[List.getD,List.getElem?_eq_getElem hi])).1
theorem PtrRow.take{w:World}{a:Option Addr}{c:Nat}{L:List NT}(h:PtrRow w a c L)(k:Nat)(hk:k≤L.length):RowIn w 0 w.heap.size a (L.take k).length c 1 (fun i j=>([ptrV ((L.take k).getD i default)]:List Value).getD j undef):=by
 refine⟨⟨fun e=>?_,Nat.le_trans (by rw[List.length_take];omega) h.1.2.1,h.1.2.2⟩,fun hn=>?_⟩
 ·obtain⟨h1,h2⟩:=h.1.1 e;exact⟨by rw[List.length_take];omega,h2⟩
 ·have hn2:0 < L.length:=by simp at hn;omega
  obtain⟨b2,o2,e,h1,h2,hc⟩:=h.2 hn2;refine⟨b2,o2,e,h1,h2,fun i hi j hj=>?_⟩;have hi2:i < k∧i < L.length:=by simp at hi;omega
  rw[hc i hi2.2 j hj]
  simp[List.getD,hi2.1]
theorem PtrRow.drop{w:World}{b o c:Nat}{L:List NT}(h:PtrRow w (some ⟨b,o,none⟩) c L)(k:Nat)(hk:k≤c):RowIn w 0 w.heap.size (some ⟨b,o+k,none⟩) (L.drop k).length (c - k) 1 (fun i j=>([ptrV ((L.drop k).getD i default)]:List Value).getD j undef):=by
 have h1:=h.1.2.1;have h2:=h.1.2.2;refine⟨⟨fun e=>by simp at e,by simp;omega,by omega⟩,fun hn=>?_⟩;have hn2:0 < L.length:=by simp at hn;omega
 obtain⟨b2,o2,e,h1,h2,hc⟩:=h.2 hn2;injection e with e
 injection e with e1 e2
 refine⟨b,o+k,rfl,by omega,by omega,fun i hi j hj=>?_⟩;obtain rfl:j=0:=by omega
 have hi2:k+i < L.length:=by simp at hi;omega
 have:=hc (k+i) hi2 0 (by omega);rw[← e1,← e2] at this;rw[show o+k+i * 1+0=o+(k+i) * 1+0 by omega,this]
 simp[List.getD,List.getElem?_drop]
theorem zcF{w w':World}{a:Option Addr}{n c k:Nat}{f:Nat→Nat→Value}(h:RowIn w 0 w.heap.size a n c k f)(g:Grew w w'):RowIn w' 0 w'.heap.size a n c k f:=(RowIn.agree h (g.agree zQ1)).mono zQ1 g.size
theorem zdn{w:World}{ops:Array Oper}{rest:List Oper}{o:Oper}{a:Act}{Q:Exit→Act→World→Prop}(hgd:o.guard=none)(s x:Operand)(ho:o.op=.call { callee:=.builtin .append,args:=#[s,x],argTypes:=#[55,55] })(dst:Option Tmp)(hdst:o.dst=dst){S:Nat→Prop}{B:Nat}(v:Value)(L M:List NT)(hs:a.eval s=v)(hB:zad S B w v L)(xa:Option Addr)(c lo hi:Nat)(hx:a.eval x=.slice xa M.length c)(hrow:RowIn w lo hi xa M.length c 1 (fun i j=>([ptrV (M.getD i default)]:List Value).getD j undef))(h63:L.length+M.length≤4194304)(hbase:B≤w.heap.size)(h:∀ v' w',zad S B w' v' (L++M)→Moves (zb1 v) w (zb1 v') w'→wpList Tryz.prog ops Q rest (a.put dst v') w'):wpList Tryz.prog ops Q (o::rest) a w :=
 zdl hgd s x 55 ho dst hdst Tryz.underlying55 infoPtr rfl (by decide) (by decide) ptr_len (fun x u hu=>by rw[List.mem_singleton.1 hu];rfl) v L M hs hB xa c lo hi hx hrow (fun _ _ _ _=>trivial) h63 hbase h
theorem zbd(L:List NT):L.flatMap (fun k=>[ptrV k])=L.map ptrV:=by
 induction L with
 | nil=>rfl
 | cons k r ih=>rw[List.flatMap_cons,ih];rfl
theorem zb7{w:World}{B B':Nat}{t:TypeId}{k n:Nat}{v:Value}{xs:List Value}(h:w.ownsRow B t k v n xs)(hb:B'≤B):w.ownsRow B' t k v n xs:=by
 refine⟨h.1,?_⟩
 rcases h.2 with h2 | ⟨g,cap,cur,hv,hg,r⟩
 ·exact Or.inl h2
 ·exact Or.inr ⟨g,cap,cur,hv,Nat.le_trans hb hg,r⟩
theorem zdv{w:World}{b o n:Nat}(h:w.there b o n)(p:Addr)(v:Value):(w.setCell p v).there b o n:=fun j hj=>by
 obtain⟨h1,h2⟩:=h j hj;refine⟨?_,by rw[World.frozen?_setCell];exact h2⟩
 by_cases e:p=⟨b,o+j,none⟩
 ·subst e;rw[World.cell?_setCell_same' _ _ _ h1];rfl
 ·rw[World.cell?_setCell_other _ _ _ _ e];exact h1
theorem NT.of_gbs{l:List NT}{b:Nat}(h:b∈NT.gbs l):∃ k∈l,b∈k.gb:=by
 induction l with
 | nil=>cases h
 | cons k r ih =>
  rw[NT.gbs] at h
  rcases List.mem_append.1 h with h | h
  ·exact⟨k,by simp,h⟩
  ·obtain⟨x,hx,hb⟩:=ih h;exact⟨x,by simp[hx],hb⟩
theorem NT.GOk.make{w:World}{y:NT}(own:y.GOwn w)(hg:∀ k∈y.ks,k.G w)(hn:(NT.gbs y.ks).Nodup)(ho:y.ob.Nodup)(hd:∀ b∈y.ob,b ∉ NT.gbs y.ks)(h1:∀ b∈y.ob,b < w.heap.size)(h2:∀ b∈NT.gbs y.ks,b < w.heap.size):y.GOk w:=by
 refine⟨⟨y,own,hg⟩,?_,fun b hb=>?_⟩
 ·rw[NT.gb_eq];exact List.nodup_append.2 ⟨ho,hn,fun a ha b hb e=>hd a ha (e ▸ hb)⟩
 ·rw[NT.gb_eq] at hb
  rcases List.mem_append.1 hb with h | h
  ·exact h1 b h
  ·exact h2 b h
def NT.reKids(u:NT)(a:Option Addr)(c:Nat)(ks:List NT):NT:=.mk u.lf u.pa u.pc u.ps u.ta u.tc u.ts a c ks
theorem NT.GOk.reKids{w w2:World}{u:NT}{a2:Option Addr}{c2:Nat}{ks:List NT}(hu:u.GOk w)(hg:Grew w w2)(hrow:w2.ownsRow w.heap.size 43 1 (.slice a2 ks.length c2) ks.length (ks.map ptrV))(hk:∀ k∈ks,k.GOk w2)(hn:(NT.gbs ks).Nodup)(hd:∀ b∈NT.gbs ks,b≠u.pc∧¬ zb1 u.runesV b∧¬ zb1 (.slice a2 ks.length c2) b) :
  (u.reKids a2 c2 ks).GOk (w2.setCell ⟨u.pc,2,none⟩ (.slice a2 ks.length c2))∧Keeps (·=u.pc) w (w2.setCell ⟨u.pc,2,none⟩ (.slice a2 ks.length c2))∧(∀ b∈(u.reKids a2 c2 ks).gb,b∈u.ob∨w.heap.size≤b∨b∈NT.gbs ks):=by
 have hown:=(hu.grew hg).g.own;have hul:∀ b∈u.ob,b < w.heap.size:=fun b hb=>hu.lt b (by rw[NT.gb_eq];exact List.mem_append_left _ hb);have hpl:=hul u.pc (List.mem_cons_self ..);have hnd:=hu.nd;rw[NT.gb_eq] at hnd;have hond:=(List.nodup_append.1 hnd).1
 have hrp:∀ j,zb1 u.runesV j→j≠u.pc:=fun j hj e=>by
  have:=(List.nodup_cons.1 hond).1;exact this (List.mem_append_left _ (mem_ownL.2 (e ▸ hj)))
 have hrl:∀ j,zb1 u.runesV j→j < w.heap.size:=fun j hj=>hul j (List.mem_cons_of_mem _ (List.mem_append_left _ (mem_ownL.2 hj)));have hvl:∀ j,zb1 (.slice a2 ks.length c2) j→w.heap.size≤j∧j < w2.heap.size:=fun j hj=>hrow.lt j hj;have k1:Keeps (·=u.pc) w2 (w2.setCell ⟨u.pc,2,none⟩ (.slice a2 ks.length c2)):=(Keeps.refl (·=u.pc) w2).own _ _;have hsz:(w2.setCell ⟨u.pc,2,none⟩ (.slice a2 ks.length c2)).heap.size=w2.heap.size:=World.size_setCell ..;have hz:=hg.size;refine⟨?_,(hg.keeps _).trans k1,?_⟩
 ·refine NT.GOk.make ?_ (fun k hk'=>((hk k hk').keeps k1 (fun b hb e=>(hd b (NT.mem_gbs hk' hb)).1 e)).g) hn ?_ (fun b hb hm=>?_) (fun b hb=>?_) (fun b hb=>?_)
  ·refine⟨?_,?_,?_,?_,hown.hts,hown.lf,hown.ps⟩
   ·intro j v hj;have h3:=hown.there 2 (by decide);have hb2:u.pc < w2.heap.size:=by omega
    match j,hj with
    | 0,hj=>rw[World.cell?_setCell_other _ _ _ _ (by simp)];exact hown.cells 0 v hj
    | 1,hj=>rw[World.cell?_setCell_other _ _ _ _ (by simp)];exact hown.cells 1 v hj
    | 2,hj =>
     have hv:v=.slice a2 ks.length c2:=by
      have:(some (.slice a2 ks.length c2):Option Value)=some v:=hj;injection this with e;exact e.symm
     subst hv;exact World.cell?_setCell_same' _ _ _ (by simpa using h3.1)
   ·exact zdv hown.there _ _
   ·exact zca hown.runes k1 (fun j hj=>hrp j hj)
   ·exact zca (zb7 hrow (Nat.zero_le _)) k1 (fun j hj e=>by have:=(hvl j hj).1;have e:j=u.pc:=e;omega)
  ·show (u.pc::(ownL u.runesV++ownL (.slice a2 ks.length c2))).Nodup
   have hn1:(ownL u.runesV).Nodup:=by unfold ownL;split <;> simp
   have hn2:(ownL (.slice a2 ks.length c2)).Nodup:=by unfold ownL;split <;> simp
   refine List.nodup_cons.2 ⟨fun hm=>?_,List.nodup_append.2 ⟨hn1,hn2,fun a ha b hb e=>?_⟩⟩
   ·rcases List.mem_append.1 hm with h | h
    ·exact hrp _ (mem_ownL.1 h) rfl
    ·have:=(hvl _ (mem_ownL.1 h)).1;omega
   ·have h1:=hrl a (mem_ownL.1 ha);have h2:=(hvl b (mem_ownL.1 hb)).1;omega
  ·have hb:b∈u.pc::(ownL u.runesV++ownL (.slice a2 ks.length c2)):=hb;have hm:b∈NT.gbs ks:=hm;obtain⟨q1,q2,q3⟩:=hd b hm
   rcases List.mem_cons.1 hb with h | h
   ·exact q1 h
   ·rcases List.mem_append.1 h with h | h
    ·exact q2 (mem_ownL.1 h)
    ·exact q3 (mem_ownL.1 h)
  ·rw[hsz];have hb:b∈u.pc::(ownL u.runesV++ownL (.slice a2 ks.length c2)):=hb
   rcases List.mem_cons.1 hb with h | h
   ·omega
   ·rcases List.mem_append.1 h with h | h
    ·have:=hrl b (mem_ownL.1 h);omega
    ·exact (hvl b (mem_ownL.1 h)).2
  ·rw[hsz];have hb:b∈NT.gbs ks:=hb;obtain⟨k,hk1,hk2⟩:=NT.of_gbs hb;exact (hk k hk1).lt b hk2
 ·intro b hb;rw[NT.gb_eq] at hb
  rcases List.mem_append.1 hb with h | h
  ·have h:b∈u.pc::(ownL u.runesV++ownL (.slice a2 ks.length c2)):=h
   rcases List.mem_cons.1 h with h | h
   ·exact .inl (h ▸ List.mem_cons_self ..)
   ·rcases List.mem_append.1 h with h | h
    ·exact .inl (List.mem_cons_of_mem _ (List.mem_append_left _ h))
    ·exact .inr (.inl (hvl b (mem_ownL.1 h)).1)
  ·exact .inr (.inr h)
theorem NT.reKids_er(u:NT)(a:Option Addr)(c:Nat)(ks:List NT):(u.reKids a c ks).er=u.er.kids (ks.map NT.er):=by
 unfold NT.reKids T.kids;rw[NT.er_eq,NT.er_lf,NT.er_ps,NT.er_ts];rfl
theorem NT.gbs_erase_nd{l:List NT}{i:Nat}(hi:i < l.length)(h:(NT.gbs l).Nodup):(NT.gbs (l.eraseIdx i)).Nodup∧∀ b∈(l.getD i default).gb,b ∉ NT.gbs (l.eraseIdx i):=by
 have h2:=(NT.gbs_get hi).nodup_iff.1 h;obtain⟨_,h3,h4⟩:=List.nodup_append.1 h2;exact⟨h3,fun b hb hm=>h4 b hb b hm rfl⟩
theorem NT.gbs_erase_sub{l:List NT}{i:Nat}(hi:i < l.length):∀ b∈NT.gbs (l.eraseIdx i),b∈NT.gbs l:=fun _b hb=>(NT.gbs_get hi).mem_iff.2 (List.mem_append_right _ hb)
def TakePost(x u:NT)(up:List Int)(i:Nat)(w:World)(e:Ending)(w':World):Prop :=
 e=.returned (.pointer (some ⟨(u.ks.getD i default).pc,0,none⟩))∧∃ x':NT,x'.GOk w'∧(u.ks.getD i default).GOk w'∧(∀ b∈(u.ks.getD i default).gb,b ∉ x'.gb)∧x'.pc=x.pc∧Hid (x'.er=T.setAt (u.er.kids ((u.ks.eraseIdx i).map NT.er)) x.er up)∧Keeps (·=u.pc) w w'∧∀ b∈x'.gb,b∈x.gb∨w.heap.size≤b
theorem take_post{x u:NT}{t:T}{up:List Int}{i:Nat}{w w2:World}{a2:Option Addr}{c2:Nat}(hx:x.GOk w)(hat:x.er.at up=some t)(hu:x.sub up=u)(hi:i < u.ks.length)(hg:Grew w w2)(hrow:w2.ownsRow w.heap.size 43 1 (.slice a2 (u.ks.eraseIdx i).length c2) (u.ks.eraseIdx i).length ((u.ks.eraseIdx i).map ptrV)) :
  TakePost x u up i w (.returned (.pointer (some ⟨(u.ks.getD i default).pc,0,none⟩))) (w2.setCell ⟨u.pc,2,none⟩ (.slice a2 (u.ks.eraseIdx i).length c2)):=by
 have huG:=hx.g.sub hat;rw[hu] at huG;obtain⟨rest,hp1,hp2⟩:=NT.gb_split hat;rw[hu] at hp1 hp2;have hnd:=hp1.nodup_iff.1 hx.nd;obtain⟨hn1,hn2,hn3⟩:=List.nodup_append.1 hnd;have hul:∀ b∈u.gb,b < w.heap.size:=fun b hb=>hx.lt b (hp1.mem_iff.2 (List.mem_append_left _ hb));have huO:u.GOk w:=⟨huG,hn1,hul⟩
 have hu2:=hn1;rw[NT.gb_eq] at hu2;obtain⟨_,hk1,hk2⟩:=List.nodup_append.1 hu2;obtain⟨he1,he2⟩:=NT.gbs_erase_nd hi hk1;have hsub:=NT.gbs_erase_sub (l:=u.ks) hi;have hkm:u.ks.getD i default∈u.ks:=zbi u.ks i hi;have hkk:∀ b∈(u.ks.getD i default).gb,b∈NT.gbs u.ks:=fun b hb=>NT.mem_gbs hkm hb
 obtain⟨q1,q2,q3⟩:=huO.reKids (a2:=a2) (c2:=c2) (ks:=u.ks.eraseIdx i) hg hrow (fun k hk=>(huO.kid (List.mem_of_mem_eraseIdx hk)).grew hg) he1 (fun b hb=>by
  have hb':=hsub b hb;refine⟨fun e=>hk2 u.pc (List.mem_cons_self ..) b hb' e.symm,fun h=>hk2 b (List.mem_cons_of_mem _ (List.mem_append_left _ (mem_ownL.2 h))) b hb' rfl,fun h=>?_⟩;have h1:=(hrow.lt b h).1;have h2:=hul b (by rw[NT.gb_eq];exact List.mem_append_right _ hb')
  omega)
 have hpc:(u.reKids a2 c2 (u.ks.eraseIdx i)).pc=u.pc:=rfl;have hO:∀ j,j=u.pc→j∈u.gb∨w.heap.size≤j∨j∈([]:List Nat):=fun j hj=>.inl (by rw[hj,NT.gb_eq];exact List.mem_append_left _ (List.mem_cons_self ..))
 have hb:∀ b∈(u.reKids a2 c2 (u.ks.eraseIdx i)).gb,b∈u.gb∨w.heap.size≤b∨b∈([]:List Nat):=fun b hb=>by
  rcases q3 b hb with h | h | h
  ·exact .inl (by rw[NT.gb_eq];exact List.mem_append_left _ h)
  ·exact .inr (.inl h)
  ·exact .inl (by rw[NT.gb_eq];exact List.mem_append_right _ (hsub b h))
 have hput:=NT.GOk.put q2 (F:=[]) hx hat (by rw[hu];exact hO) (by rw[hu];exact hpc) q1 (by rw[hu];exact hb) (fun b hb=>by cases hb);obtain⟨p1,p2⟩:=hp2 _ hpc;have hkO:=huO.kid hkm;refine⟨rfl,NT.setAt (u.reKids a2 c2 (u.ks.eraseIdx i)) x up,hput,hkO.keeps q2 (fun b hb' e=>hk2 u.pc (List.mem_cons_self ..) b (hkk b hb') e.symm),fun b hb' hm=>?_,p2,?_,q2,fun b hb'=>?_⟩
 ·have hbu:b∈u.gb:=by rw[NT.gb_eq];exact List.mem_append_right _ (hkk b hb')
  rcases List.mem_append.1 (p1.mem_iff.1 hm) with h | h
  ·rw[NT.gb_eq] at h
   rcases List.mem_append.1 h with h | h
   ·have h:b∈u.pc::(ownL u.runesV++ownL (.slice a2 (u.ks.eraseIdx i).length c2)):=h
    rcases List.mem_cons.1 h with h | h
    ·exact hk2 u.pc (List.mem_cons_self ..) b (hkk b hb') h.symm
    ·rcases List.mem_append.1 h with h | h
     ·exact hk2 b (List.mem_cons_of_mem _ (List.mem_append_left _ h)) b (hkk b hb') rfl
     ·have h1:=(hrow.lt b (mem_ownL.1 h)).1;have h2:=hul b hbu;omega
   ·exact he2 b hb' h
  ·exact hn3 b hbu b h rfl
 ·show _=_
  rw[NT.setAt_er,NT.reKids_er]
 ·rcases List.mem_append.1 (p1.mem_iff.1 hb') with h | h
  ·rcases hb b h with h | h | h
   ·exact .inl (hp1.mem_iff.2 (List.mem_append_left _ h))
   ·exact .inr h
   ·cases h
  ·exact .inl (hp1.mem_iff.2 (List.mem_append_right _ h))
theorem erase_parts(l:List NT)(i:Nat):l.take i++l.drop (i+1)=l.eraseIdx i:=(List.eraseIdx_eq_take_drop_succ l i).symm
theorem zcQ{w:World}{base:Nat}{e:TypeId}{size:Nat}{v:Value}{n:Nat}{xs:List Value}(h:w.ownsRow base e size v n xs):∃(m:Nat) (a:Option Addr) (c:Nat),v=.slice a m c:=by
 obtain⟨a,c,h⟩:=zb6 h;exact⟨_,a,c,h⟩
theorem take12_any(x u:NT){t:T}(pa:Option Addr)(pc:Nat)(up:List Int)(i:Nat)(w:World)(hx:x.GOk w)(hp:IntsIn w 0 w.heap.size pa pc (up++[(i:Int)]))(hat:x.er.at up=some t)(hu:x.sub up=u)(hi:i < u.ks.length)(hl:up.length+1≤1048576)(hkl:u.ks.length≤1048576) :
  Calls Tryz.prog 77 #[.pointer (some ⟨x.pc,0,none⟩),.slice pa (up.length+1) pc] w (TakePost x u up i w):=by
 have hpu:IntsIn w 0 w.heap.size pa pc up:=by
  have:=IntsIn.take hp (k:=up.length) (by simp);rw[List.take_left' rfl] at this;exact this
 have FT:=zQ0 (za8 x pa pc up w hx.g hpu hat (by omega));rw[hu] at FT;have hcap:up.length+1≤pc:=by have:=hp.1.2.1;rw[List.length_append] at this;exact this
 obtain⟨pb,po,rfl,_,hpb,hpcell⟩:=hp.at (j:=up.length) (by simp);have hpi:(up++[(i:Int)]).getD up.length 0=(i:Int):=by simp[List.getD]
 rw[hpi] at hpcell;have huG:=hx.g.sub hat;rw[hu] at huG;have HPost:=zQ0 (fun(w2:World) (a2:Option Addr) (c2:Nat) (hg:Grew w w2) (hrow:w2.ownsRow w.heap.size 43 1 (.slice a2 (u.ks.eraseIdx i).length c2) (u.ks.eraseIdx i).length ((u.ks.eraseIdx i).map ptrV))=>take_post hx hat hu hi hg hrow);have HROW:=zQ0 huG.own.row;have KC:=zQ0 (fun(w':World) (g:Grew w w')=>((hx.grew g).g.sub hat));rw[hu] at KC;obtain⟨c0,c1,c2⟩:=huG.own.at;obtain⟨kb,hka,hkb,hkc⟩:=huG.own.kid_at hi;rw[hka] at c2 HROW;unfold ptrV at hkc;have hkcap:u.ks.length≤u.kc∧u.kc≤maxLen:=⟨HROW.out.1.2.1,HROW.out.1.2.2⟩
 unfold maxLen at hkcap;have hw1:IntKind.i64.wrap (((up.length+1:Nat):Int) - 1)=(up.length:Int):=by rw[IntKind.wrap_i64];omega
 have hw2:IntKind.i64.wrap ((i:Int)+1)=(i:Int)+1:=by rw[IntKind.wrap_i64];omega
 have hlen1:(u.ks.take i).length=i:=by rw[List.length_take];omega
 have hlen2:(u.ks.drop (i+1)).length=u.ks.length - (i+1):=List.length_drop;have HT1:=zQ0 hlen1;have HT2:=zQ0 hlen2;have HE:=zQ0 (erase_parts u.ks i);have HI:=zQ0 hi;have HKA:=zQ0 hka;clear hka;clear hx hp hat hu hpu hpi huG hlen1 hlen2;generalize hkx:(u.ks.getD i default).pc=kp at *;clear hkx;have q1:(i:Int) < u.ks.length:=by omega
 have q2:(i:Int)≤u.kc:=by omega
 have q3:(up.length:Int)≤pc:=by omega
 go_enter Tryz.func77,Tryz.ntmps77
 go_wp2_with fail
 refine FT.out.mono ?_;rintro e w1 ⟨rfl,rfl⟩
 go_upto_region 6 with (at_builtin;go_loud (refine zdn (S:=fun _=>False) (B:=w1.heap.size) rfl (.tmp 29) (.tmp 35) rfl (some 36) rfl (.slice none 0 0) [] (u.ks.take i) rfl Built.nil (some ⟨kb,0,none⟩) u.kc 0 w1.heap.size (congrArg (fun n:Nat=>Value.slice (some ⟨kb,0,none⟩) n u.kc) HT1.out.symm) (HROW.out.take i (Nat.le_of_lt HI.out)) (by have:=HT1.out;simp only[List.length_nil];omega) zQ1 ?_);intro v1 w2 hB1 hk1)
 have g12:Grew w1 w2:=(Grew.refl _).own hk1 (fun j hj=>absurd hj zb2);have d2:=(KC.out w2 g12).own.at.2.2;have hth:=(KC.out w2 g12).own.there;rw[HKA.out] at d2;have HR2:=zQ0 (zcF HROW.out g12);have HG12:=zQ0 g12;have HB1:=zQ0 hB1;have HTH:=zQ0 hth;clear hk1 hB1 g12 hth c0 c1 c2 hkc hpcell FT;rw[List.nil_append] at HB1
 have fin:∀(M:List NT) (v2:Value) (w3:World),M=u.ks.drop (i+1)→zad (fun _=>False) w1.heap.size w3 v2 (u.ks.take i++M)→Moves (zb1 v1) w2 (zb1 v2) w3→Grew w1 w3∧TakePost x u up i w1 (.returned (.pointer (some ⟨kp,0,none⟩))) (w3.setCell ⟨u.pc,2,none⟩ v2):=by
  intro M v2 w3 hM hB hm;subst hM;rw[HE.out] at hB;have hg3:Grew w1 w3:=HG12.out.keep hm.1 (fun j hj=>(HB1.out.lt j hj).1);have h1:=hB.1;rw[zbd] at h1;obtain⟨a2,c2,rfl⟩:=zb6 h1;exact⟨hg3,HPost.out w3 a2 c2 hg3 h1⟩
 have HFIN:=zQ0 fin;clear fin
 by_cases hend:i+1=u.kc
 ·have HD:Hid (u.ks.drop (i+1)=[]):=by
   show _=_
   rw[List.drop_eq_nil_iff];omega
  have q4:¬ (i:Int)+1 < u.kc:=by omega
  have q5:(i:Int)+1≤u.kc:=by omega
  have q6:(u.ks.length:Int) - ((i:Int)+1)=0:=by omega
  go_wp2_with (at_builtin;go_loud (refine zdn (S:=fun _=>False) (B:=w1.heap.size) rfl (.tmp 38) (.tmp 45) rfl (some 46) rfl v1 (u.ks.take i) [] rfl HB1.out (some ⟨kb,0,none⟩) 0 0 w2.heap.size rfl ⟨⟨fun e=>(by cases e),Nat.le_refl _,Nat.zero_le _⟩,fun h=>absurd h (Nat.lt_irrefl _)⟩ (by have:=HT1.out;simp only[List.length_nil];omega) HG12.out.size ?_);intro v2 w3 hB2 hk2;have hg3:Grew w1 w3:=HG12.out.keep hk2.1 (fun j hj=>(HB1.out.lt j hj).1);obtain⟨f1,f2⟩:=(KC.out w3 hg3).own.there 2 (by decide);simp only[Nat.zero_add] at f1 f2;have d3:=(KC.out w3 hg3).own.at.2.2;obtain⟨n2,a2,cc2,rfl⟩:=zcQ hB2.1;have HPP:=zQ0 (HFIN.out [] _ w3 HD.out.symm hB2 hk2))
  go_ret
  exact HPP.out.2
 ·have q4:(i:Int)+1 < u.kc:=by omega
  have q5:(i:Int)+1≤u.ks.length:=by omega
  have HCP:Hid (i+1≤u.kc):=by show _≤_;omega
  have HSL:Hid (Value.slice (some ⟨kb,i+1,none⟩) (u.ks.length - (i+1)) (u.kc - (i+1))=Value.slice (some ⟨kb,0+(i+1),none⟩) (u.ks.drop (i+1)).length (u.kc - (i+1))):=by show _=_;rw[HT2.out,Nat.zero_add]
  go_wp2_with (at_builtin;go_loud (refine zdn (S:=fun _=>False) (B:=w1.heap.size) rfl (.tmp 38) (.tmp 45) rfl (some 46) rfl v1 (u.ks.take i) (u.ks.drop (i+1)) rfl HB1.out (some ⟨kb,0+(i+1),none⟩) (u.kc - (i+1)) 0 w2.heap.size HSL.out (PtrRow.drop HR2.out (i+1) HCP.out) (by have:=HT1.out;have:=HT2.out;omega) HG12.out.size ?_);intro v2 w3 hB2 hk2;have hg3:Grew w1 w3:=HG12.out.keep hk2.1 (fun j hj=>(HB1.out.lt j hj).1);obtain⟨f1,f2⟩:=(KC.out w3 hg3).own.there 2 (by decide);simp only[Nat.zero_add] at f1 f2;have d3:=(KC.out w3 hg3).own.at.2.2;obtain⟨n2,a2,cc2,rfl⟩:=zcQ hB2.1;have HPP:=zQ0 (HFIN.out _ _ w3 rfl hB2 hk2))
  go_ret
  exact HPP.out.2
end Go.Proofs.YtbhbekocmpmjfaaGreatDoor
