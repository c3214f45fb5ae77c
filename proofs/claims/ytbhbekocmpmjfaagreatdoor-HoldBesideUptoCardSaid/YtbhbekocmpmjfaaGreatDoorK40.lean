/- A GHOST GROWS: a rune more, a Kid more (append onto the rows of its own). -/
import Derived.Test.YtbhbekocmpmjfaaGreatDoorK39
import Derived.Test.YtbhbekocmpmjfaaGreatDoorK20
import Derived.Test.YtbhbekocmpmjfaaGreatDoorK05
import Derived.Test.YtbhbekocmpmjfaaGreatDoorK03
set_option maxRecDepth 100000
set_option maxHeartbeats 100000000
namespace Go.Proofs.YtbhbekocmpmjfaaGreatDoor
open Go Go.RowKit
theorem int_len(k:Int):[Value.int .i64 k].length=1:=rfl
theorem infoIntB:(Tryz.prog.info? 3).map (fun i=>(i.zero,i.size,i.bytes))=some (some (.int .i64 0),1,8):=by kernel_rfl
abbrev zaa (S:Nat→Prop) (B:Nat) (w:World) (v:Value) (L:List Int):Prop:=Built S 3 1 (fun k:Int=>[Value.int .i64 k]) (fun _ _=>True) B w v L
theorem zbc(L:List Int):L.flatMap (fun k=>[Value.int .i64 k])=L.map (Value.int .i64):=by
 induction L with
 | nil=>rfl
 | cons k r ih=>rw[List.flatMap_cons,ih];rfl
theorem NT.GOwn.nums{w:World}{x:NT}(h:x.GOwn w):zaa (fun _=>False) 0 w x.runesV x.ts.tail:=⟨by rw[zbc];exact h.runes,fun _ _ _ _=>trivial⟩
theorem NT.GOwn.ptrs{w:World}{x:NT}(h:x.GOwn w):zad (fun _=>False) 0 w x.kidsV x.ks:=⟨by rw[zbd];exact h.kids,fun _ _ _ _=>trivial⟩
theorem num_row1{w:World}{t:TypeId}(k:Int):RowIn (w.alloc (.cells #[.int .i64 k] t)) w.heap.size (w.heap.size+1) (some ⟨w.heap.size,0,none⟩) [k].length 1 1 (fun i j=>([Value.int .i64 ([k].getD i default)]:List Value).getD j undef) :=
 zcG zQ1 (by unfold maxLen;decide) (fun i hi j hj=>by
  obtain rfl:j=0:=by omega
  obtain rfl:i=0:=by have:i < 1:=hi;omega
  rfl)
theorem zdm{w:World}{ops:Array Oper}{rest:List Oper}{o:Oper}{a:Act}{Q:Exit→Act→World→Prop}(hgd:o.guard=none)(s x:Operand)(ho:o.op=.call { callee:=.builtin .append,args:=#[s,x],argTypes:=#[27,27] })(dst:Option Tmp)(hdst:o.dst=dst){S:Nat→Prop}{B:Nat}(v:Value)(L M:List Int)(hs:a.eval s=v)(hB:zaa S B w v L)(xa:Option Addr)(c lo hi:Nat)(hx:a.eval x=.slice xa M.length c)(hrow:RowIn w lo hi xa M.length c 1 (fun i j=>([Value.int .i64 (M.getD i default)]:List Value).getD j undef))(h63:L.length+M.length≤4194304)(hbase:B≤w.heap.size)(h:∀ v' w',zaa S B w' v' (L++M)→Moves (zb1 v) w (zb1 v') w'→wpList Tryz.prog ops Q rest (a.put dst v') w'):wpList Tryz.prog ops Q (o::rest) a w :=
 zdl hgd s x 27 ho dst hdst Tryz.underlying27 infoIntB rfl (by decide) (by decide) int_len (fun x u hu=>by rw[List.mem_singleton.1 hu];rfl) v L M hs hB xa c lo hi hx hrow (fun _ _ _ _=>trivial) h63 hbase h
theorem zb0(v:Value):(ownL v).Nodup:=by unfold ownL;split <;> simp
def NT.moreRune(x:NT)(a:Option Addr)(c:Nat)(z:Int):NT:=.mk x.lf x.pa x.pc x.ps a c (x.ts++[z]) x.ka x.kc x.ks
def NT.moreKid(x:NT)(a:Option Addr)(c:Nat)(k:NT):NT:=.mk x.lf x.pa x.pc x.ps x.ta x.tc x.ts a c (x.ks++[k])
theorem tail_more{l:List Int}(h:l≠[])(z:Int):(l++[z]).tail=l.tail++[z]∧(l++[z]).headD 0=l.headD 0:=by
 cases l with
 | nil=>exact absurd rfl h
 | cons a r=>exact⟨rfl,rfl⟩
theorem NT.GOk.addRune{w w':World}{x:NT}{a:Option Addr}{c:Nat}{z:Int}(h:x.GOk w)(hB:zaa (fun _=>False) 0 w' (.slice a (x.ts.tail.length+1) c) (x.ts.tail++[z]))(hm:Moves (zb1 x.runesV) w (zb1 (.slice a (x.ts.tail.length+1) c)) w') :
  (x.moreRune a c z).GOk (w'.setCell ⟨x.pc,1,none⟩ (.slice a (x.ts.tail.length+1) c))∧Keeps (·∈x.gb) w (w'.setCell ⟨x.pc,1,none⟩ (.slice a (x.ts.tail.length+1) c))∧∀ b∈(x.moreRune a c z).gb,b∈x.gb∨w.heap.size≤b:=by
 obtain⟨d1,d2,d3⟩:=h.ob_nd;have hown:=h.g.own;obtain⟨e1,e2⟩:=tail_more hown.hts z;have hobg:∀ b∈x.ob,b∈x.gb:=fun b hb=>by rw[NT.gb_eq];exact List.mem_append_left _ hb
 have hrb:∀ j,zb1 x.runesV j→j∈x.ob:=fun j hj=>List.mem_cons_of_mem _ (List.mem_append_left _ (mem_ownL.2 hj));have hkb:∀ j,zb1 x.kidsV j→j∈x.ob:=fun j hj=>List.mem_cons_of_mem _ (List.mem_append_right _ (mem_ownL.2 hj));have hpl:x.pc < w.heap.size:=h.lt _ (hobg _ (List.mem_cons_self ..));have hnd:=h.nd;rw[NT.gb_eq] at hnd;obtain⟨_,hn2,hd⟩:=List.nodup_append.1 hnd;have hrow:=hB.1;rw[zbc,List.length_append,List.length_singleton] at hrow
 have hnew:∀ j,zb1 (.slice a (x.ts.tail.length+1) c) j→j≠x.pc∧¬ zb1 x.kidsV j∧j ∉ NT.gbs x.ks:=fun j hj=>by
  rcases hm.2 j hj with h1 | h1
  ·exact⟨d1 j h1,d3 j h1,fun hg=>hd j (hrb j h1) j hg rfl⟩
  ·refine⟨by omega,fun hk=>?_,fun hg=>?_⟩
   ·have:=h.lt j (hobg j (hkb j hk));omega
   ·have:=h.lt j (by rw[NT.gb_eq];exact List.mem_append_right _ hg);omega
 have k1:Keeps (·=x.pc) w' (w'.setCell ⟨x.pc,1,none⟩ (.slice a (x.ts.tail.length+1) c)):=(Keeps.refl (·=x.pc) w').own _ _;have kk:Keeps (·∈x.ob) w (w'.setCell ⟨x.pc,1,none⟩ (.slice a (x.ts.tail.length+1) c)):=(hm.1.wider fun i _ hi=>hrb i hi).trans (k1.wider fun i _ e=>e ▸ List.mem_cons_self ..);have hc2:=zcp hown.cells hm.1 hpl (fun e=>d1 _ e rfl);have ht2:=there_keeps hown.there hm.1 hpl (fun e=>d1 _ e rfl);have hk2:=zca hown.kids hm.1 (fun j hj e=>d3 j e hj);have hsz:(w'.setCell ⟨x.pc,1,none⟩ (.slice a (x.ts.tail.length+1) c)).heap.size=w'.heap.size:=World.size_setCell ..;have hwz:=hm.1.size
 have hob:(x.moreRune a c z).ob=x.pc::(ownL (.slice a (x.ts.tail.length+1) c)++ownL x.kidsV):=by
  unfold NT.ob NT.runesV NT.kidsV NT.moreRune;simp only[NT.pc_mk,NT.ta_mk,NT.tc_mk,NT.ts_mk,NT.ka_mk,NT.kc_mk,NT.ks_mk];rw[NT.ownBlock_len a _ (x.ts.tail.length+1)]
 refine⟨NT.GOk.make ?_ (fun k hk'=>((h.kid hk').keeps kk (fun b hb hm'=>hd b hm' b (NT.mem_gbs hk' hb) rfl)).g) hn2 ?_ (fun b hb hm'=>?_) (fun b hb=>?_) (fun b hb=>?_),kk.wider (fun i _ hi=>hobg i hi),fun b hb=>?_⟩
 ·refine⟨?_,zdv ht2 _ _,?_,zca hk2 k1 (fun j hj=>d2 j hj),by simp[NT.moreRune],hown.lf,hown.ps⟩
  ·have h3:=ht2 1 (by decide);intro j v hj
   match j,hj with
   | 0,hj =>
    rw[World.cell?_setCell_other _ _ _ _ (by simp)];refine hc2 0 v ?_;rw[← hj]
    show some (Value.int .i64 (x.ts.headD 0))=some (Value.int .i64 ((x.ts++[z]).headD 0))
    rw[e2]
   | 1,hj =>
    have hv:v=.slice a (x.ts.tail.length+1) c:=by
     have:(some (.slice a (x.ts++[z]).tail.length c):Option Value)=some v:=hj;rw[e1,List.length_append] at this;injection this with e;exact e.symm
    subst hv;exact World.cell?_setCell_same' _ _ _ (by simpa using h3.1)
   | 2,hj=>rw[World.cell?_setCell_other _ _ _ _ (by simp)];exact hc2 2 v hj
  ·have:=zca hrow k1 (fun j hj=>(hnew j hj).1)
   show World.ownsRow _ 0 _ 1 (.slice a (x.ts++[z]).tail.length c) (x.ts++[z]).tail.length ((x.ts++[z]).tail.map _)
   rw[e1,List.length_append];exact this
 ·rw[hob];refine List.nodup_cons.2 ⟨fun hm'=>?_,List.nodup_append.2 ⟨zb0 _,zb0 _,fun p hp q hq e=>?_⟩⟩
  ·rcases List.mem_append.1 hm' with h1 | h1
   ·exact (hnew _ (mem_ownL.1 h1)).1 rfl
   ·exact d2 _ (mem_ownL.1 h1) rfl
  ·exact (hnew p (mem_ownL.1 hp)).2.1 (e ▸ mem_ownL.1 hq)
 ·rw[hob] at hb;have hm':b∈NT.gbs x.ks:=hm'
  rcases List.mem_cons.1 hb with h1 | h1
  ·exact hd _ (List.mem_cons_self ..) b hm' h1.symm
  ·rcases List.mem_append.1 h1 with h1 | h1
   ·exact (hnew b (mem_ownL.1 h1)).2.2 hm'
   ·exact hd b (hkb b (mem_ownL.1 h1)) b hm' rfl
 ·rw[hob] at hb;rw[hsz]
  rcases List.mem_cons.1 hb with h1 | h1
  ·omega
  ·rcases List.mem_append.1 h1 with h1 | h1
   ·exact (hrow.lt b (mem_ownL.1 h1)).2
   ·have:=h.lt b (hobg b (hkb b (mem_ownL.1 h1)));omega
 ·have hb:b∈NT.gbs x.ks:=hb;rw[hsz];have:=h.lt b (by rw[NT.gb_eq];exact List.mem_append_right _ hb);omega
 ·rw[NT.gb_eq,hob] at hb
  rcases List.mem_append.1 hb with hb | hb
  ·rcases List.mem_cons.1 hb with h1 | h1
   ·exact .inl (h1 ▸ hobg _ (List.mem_cons_self ..))
   ·rcases List.mem_append.1 h1 with h1 | h1
    ·rcases hm.2 b (mem_ownL.1 h1) with h2 | h2
     ·exact .inl (hobg b (hrb b h2))
     ·exact .inr h2
    ·exact .inl (hobg b (hkb b (mem_ownL.1 h1)))
  ·exact .inl (by rw[NT.gb_eq];exact List.mem_append_right _ hb)
theorem NT.gbs_snoc(l:List NT)(k:NT):NT.gbs (l++[k])=NT.gbs l++k.gb:=by
 rw[NT.gbs_app,NT.gbs,NT.gbs,List.append_nil]
theorem NT.GOk.addKid{w w':World}{x k:NT}{a:Option Addr}{c:Nat}(h:x.GOk w)(hkk:k.GOk w)(hkx:∀ b∈k.gb,b ∉ x.gb)(hB:zad (fun _=>False) 0 w' (.slice a (x.ks.length+1) c) (x.ks++[k]))(hm:Moves (zb1 x.kidsV) w (zb1 (.slice a (x.ks.length+1) c)) w') :
  (x.moreKid a c k).GOk (w'.setCell ⟨x.pc,2,none⟩ (.slice a (x.ks.length+1) c))∧Keeps (·∈x.gb) w (w'.setCell ⟨x.pc,2,none⟩ (.slice a (x.ks.length+1) c))∧∀ b∈(x.moreKid a c k).gb,b∈x.gb∨b∈k.gb∨w.heap.size≤b:=by
 obtain⟨d1,d2,d3⟩:=h.ob_nd;have hown:=h.g.own;have hobg:∀ b∈x.ob,b∈x.gb:=fun b hb=>by rw[NT.gb_eq];exact List.mem_append_left _ hb
 have hkg:∀ b∈NT.gbs x.ks,b∈x.gb:=fun b hb=>by rw[NT.gb_eq];exact List.mem_append_right _ hb
 have hrb:∀ j,zb1 x.runesV j→j∈x.ob:=fun j hj=>List.mem_cons_of_mem _ (List.mem_append_left _ (mem_ownL.2 hj));have hkb:∀ j,zb1 x.kidsV j→j∈x.ob:=fun j hj=>List.mem_cons_of_mem _ (List.mem_append_right _ (mem_ownL.2 hj));have hpb:x.pc∈x.ob:=List.mem_cons_self ..;have hpl:x.pc < w.heap.size:=h.lt _ (hobg _ hpb);have hnd:=h.nd;rw[NT.gb_eq] at hnd;obtain⟨_,hn2,hd⟩:=List.nodup_append.1 hnd;have hrow:=hB.1;rw[zbd,List.length_append,List.length_singleton] at hrow
 have hmem:∀ b,b∈NT.gbs (x.ks++[k])→b∈NT.gbs x.ks∨b∈k.gb:=fun b hb=>by
  rw[NT.gbs_snoc] at hb;exact List.mem_append.1 hb
 have hobk:∀ b∈x.ob,b ∉ NT.gbs (x.ks++[k]):=fun b hb hg=>by
  rcases hmem b hg with h1 | h1
  ·exact hd b hb b h1 rfl
  ·exact hkx b h1 (hobg b hb)
 have hlt:∀ b∈NT.gbs (x.ks++[k]),b < w.heap.size:=fun b hb=>by
  rcases hmem b hb with h1 | h1
  ·exact h.lt b (hkg b h1)
  ·exact hkk.lt b h1
 have hnew:∀ j,zb1 (.slice a (x.ks.length+1) c) j→j≠x.pc∧¬ zb1 x.runesV j∧j ∉ NT.gbs (x.ks++[k]):=fun j hj=>by
  rcases hm.2 j hj with h1 | h1
  ·exact⟨d2 j h1,fun h2=>d3 j h2 h1,hobk j (hkb j h1)⟩
  ·refine⟨by omega,fun hr=>?_,fun hg=>?_⟩
   ·have:=h.lt j (hobg j (hrb j hr));omega
   ·have:=hlt j hg;omega
 have k1:Keeps (·=x.pc) w' (w'.setCell ⟨x.pc,2,none⟩ (.slice a (x.ks.length+1) c)):=(Keeps.refl (·=x.pc) w').own _ _;have kk:Keeps (·∈x.ob) w (w'.setCell ⟨x.pc,2,none⟩ (.slice a (x.ks.length+1) c)):=(hm.1.wider fun i _ hi=>hkb i hi).trans (k1.wider fun i _ e=>e ▸ List.mem_cons_self ..);have hc2:=zcp hown.cells hm.1 hpl (fun e=>d2 _ e rfl);have ht2:=there_keeps hown.there hm.1 hpl (fun e=>d2 _ e rfl);have hr2:=zca hown.runes hm.1 (fun j hj e=>d3 j hj e);have hsz:(w'.setCell ⟨x.pc,2,none⟩ (.slice a (x.ks.length+1) c)).heap.size=w'.heap.size:=World.size_setCell ..;have hwz:=hm.1.size
 have hob:(x.moreKid a c k).ob=x.pc::(ownL x.runesV++ownL (.slice a (x.ks.length+1) c)):=by
  unfold NT.ob NT.runesV NT.kidsV NT.moreKid;simp only[NT.pc_mk,NT.ta_mk,NT.tc_mk,NT.ts_mk,NT.ka_mk,NT.kc_mk,NT.ks_mk];rw[NT.ownBlock_len a _ (x.ks.length+1)]
 refine⟨NT.GOk.make ?_ (fun q hq=>?_) ?_ ?_ (fun b hb hm'=>?_) (fun b hb=>?_) (fun b hb=>?_),kk.wider (fun i _ hi=>hobg i hi),fun b hb=>?_⟩
 ·refine⟨?_,zdv ht2 _ _,zca hr2 k1 (fun j hj=>d1 j hj),?_,hown.hts,hown.lf,hown.ps⟩
  ·have h3:=ht2 2 (by decide);intro j v hj
   match j,hj with
   | 0,hj=>rw[World.cell?_setCell_other _ _ _ _ (by simp)];exact hc2 0 v hj
   | 1,hj=>rw[World.cell?_setCell_other _ _ _ _ (by simp)];exact hc2 1 v hj
   | 2,hj =>
    have hv:v=.slice a (x.ks.length+1) c:=by
     have:(some (.slice a (x.ks++[k]).length c):Option Value)=some v:=hj;rw[List.length_append] at this;injection this with e;exact e.symm
    subst hv;exact World.cell?_setCell_same' _ _ _ (by simpa using h3.1)
  ·have:=zca hrow k1 (fun j hj=>(hnew j hj).1)
   show World.ownsRow _ 0 _ 1 (.slice a (x.ks++[k]).length c) (x.ks++[k]).length ((x.ks++[k]).map _)
   rw[List.length_append];exact this
 ·have hq:q∈x.ks++[k]:=hq;have hqg:∀ b∈q.gb,b∈NT.gbs (x.ks++[k]):=fun b hb=>NT.mem_gbs hq hb
  rcases List.mem_append.1 hq with h1 | h1
  ·exact ((h.kid h1).keeps kk (fun b hb hm'=>hobk b hm' (hqg b hb))).g
  ·obtain rfl:=List.mem_singleton.1 h1;exact (hkk.keeps kk (fun b hb hm'=>hobk b hm' (hqg b hb))).g
 ·show (NT.gbs (x.ks++[k])).Nodup
  rw[NT.gbs_snoc];exact List.nodup_append.2 ⟨hn2,hkk.nd,fun p hp q hq e=>hkx q hq (e ▸ hkg p hp)⟩
 ·rw[hob];refine List.nodup_cons.2 ⟨fun hm'=>?_,List.nodup_append.2 ⟨zb0 _,zb0 _,fun p hp q hq e=>?_⟩⟩
  ·rcases List.mem_append.1 hm' with h1 | h1
   ·exact d1 _ (mem_ownL.1 h1) rfl
   ·exact (hnew _ (mem_ownL.1 h1)).1 rfl
  ·exact (hnew q (mem_ownL.1 hq)).2.1 (e ▸ mem_ownL.1 hp)
 ·rw[hob] at hb;have hm':b∈NT.gbs (x.ks++[k]):=hm'
  rcases List.mem_cons.1 hb with h1 | h1
  ·exact hobk _ hpb (h1 ▸ hm')
  ·rcases List.mem_append.1 h1 with h1 | h1
   ·exact hobk b (hrb b (mem_ownL.1 h1)) hm'
   ·exact (hnew b (mem_ownL.1 h1)).2.2 hm'
 ·rw[hob] at hb;rw[hsz]
  rcases List.mem_cons.1 hb with h1 | h1
  ·omega
  ·rcases List.mem_append.1 h1 with h1 | h1
   ·have:=h.lt b (hobg b (hrb b (mem_ownL.1 h1)));omega
   ·exact (hrow.lt b (mem_ownL.1 h1)).2
 ·have hb:b∈NT.gbs (x.ks++[k]):=hb;rw[hsz];have:=hlt b hb;omega
 ·rw[NT.gb_eq,hob] at hb
  rcases List.mem_append.1 hb with hb | hb
  ·rcases List.mem_cons.1 hb with h1 | h1
   ·exact .inl (h1 ▸ hobg _ hpb)
   ·rcases List.mem_append.1 h1 with h1 | h1
    ·exact .inl (hobg b (hrb b (mem_ownL.1 h1)))
    ·rcases hm.2 b (mem_ownL.1 h1) with h2 | h2
     ·exact .inl (hobg b (hkb b h2))
     ·exact .inr (.inr h2)
  ·rcases hmem b hb with h1 | h1
   ·exact .inl (hkg b h1)
   ·exact .inr (.inl h1)
def GhPost(n:T)(f:Int)(w:World)(e:Ending)(w':World):Prop:=∃ x:NT,e=.returned (.tuple #[.pointer (some ⟨x.pc,0,none⟩),.int .i64 (f+n.size)])∧x.GOk w'∧Hid (x.er=gh n f)∧Grew w w'∧∀ b∈x.gb,w.heap.size≤b
theorem gh_eq(n:T)(f:Int):gh n f=.mk false [] (f::(List.range n.ts.length).map (fun i:Nat=>f+1+(i:Int))) (ghs n.ks (f+1+n.ts.length)):=by
 cases n;rw[gh];rfl
theorem ghs_snoc(l:List T)(k:T):∀ f,ghs (l++[k]) f=ghs l f++[gh k (f+T.sizes l)]:=by
 induction l with
 | nil=>intro f;rw[List.nil_append,ghs,ghs,ghs,T.sizes];simp
 | cons x r ih =>
  intro f;rw[List.cons_append,ghs,ghs,ih,T.sizes,List.cons_append];rw[show f+((x.size+T.sizes r:Nat):Int)=f+x.size+T.sizes r by omega]
def ghR(p:Nat)(f:Int)(k:Nat)(a:Option Addr)(c:Nat):NT:=.mk false none p [] a c (f::(List.range k).map (fun i:Nat=>f+1+(i:Int))) none 0 []
theorem ghR_next(p:Nat)(f:Int)(k:Nat)(a a2:Option Addr)(c c2:Nat):(ghR p f k a c).moreRune a2 c2 (f+1+k)=ghR p f (k+1) a2 c2:=by
 unfold NT.moreRune ghR
 simp[List.range_succ]
theorem ghR_len(p:Nat)(f:Int)(k:Nat)(a:Option Addr)(c:Nat):(ghR p f k a c).ts.tail.length=k:=by
 show ((List.range k).map _).length=k
 simp
theorem ghR_new(w:World)(f:Int)(t:TypeId):(ghR w.heap.size f 0 none 0).GOk (w.alloc (.cells #[.int .i64 f,.slice none 0 0,.slice none 0 0] t))∧∀ b∈(ghR w.heap.size f 0 none 0).gb,w.heap.size≤b:=by
 have hgb:(ghR w.heap.size f 0 none 0).gb=[w.heap.size]:=by rw[NT.gb_eq];rfl
 refine⟨NT.GOk.make ?_ (fun k hk=>by cases hk) List.nodup_nil ?_ (fun b _ hb=>by cases hb) (fun b hb=>?_) (fun b hb=>by cases hb),fun b hb=>?_⟩
 ·have hc:∀ j,(w.alloc (.cells #[.int .i64 f,.slice none 0 0,.slice none 0 0] t)).cell? ⟨w.heap.size,j,none⟩=(#[.int .i64 f,.slice none 0 0,.slice none 0 0]:Array Value)[j]?:=fun j=>World.cell?_alloc_new ..;refine⟨?_,?_,⟨rfl,.inl ⟨rfl,rfl⟩⟩,⟨rfl,.inl ⟨rfl,rfl⟩⟩,by simp[ghR],rfl,rfl⟩
  ·intro j v hj
   match j,hj with
   | 0,hj=>exact (hc 0).trans hj
   | 1,hj=>exact (hc 1).trans hj
   | 2,hj=>exact (hc 2).trans hj
  ·intro j hj;refine⟨?_,World.frozen?_alloc_at _ _ _ _ rfl⟩
   match j,hj with
   | 0,_=>exact congrArg Option.isSome (hc 0)
   | 1,_=>exact congrArg Option.isSome (hc 1)
   | 2,_=>exact congrArg Option.isSome (hc 2)
 ·show [w.heap.size].Nodup
  simp
 ·have hb:b∈[w.heap.size]:=hb
  simp at hb ⊢;omega
 ·rw[hgb] at hb;simp at hb;omega
theorem NT.GOk.appRune{w w':World}{x:NT}{v:Value}{z:Int}(h:x.GOk w)(hB:zaa (fun _=>False) 0 w' v (x.ts.tail++[z]))(hm:Moves (zb1 x.runesV) w (zb1 v) w') :
  w'.there x.pc 0 3∧∃(a:Option Addr) (c:Nat),(x.moreRune a c z).GOk (w'.setCell ⟨x.pc,1,none⟩ v)∧Keeps (·∈x.gb) w (w'.setCell ⟨x.pc,1,none⟩ v)∧∀ b∈(x.moreRune a c z).gb,b∈x.gb∨w.heap.size≤b:=by
 have hr:=hB.1;rw[zbc,List.length_append,List.length_singleton] at hr;obtain⟨a,c,rfl⟩:=zb6 hr;have hp:=h.lt x.pc (by rw[NT.gb_eq];exact List.mem_append_left _ (List.mem_cons_self ..));exact⟨there_keeps h.g.own.there hm.1 hp (fun e=>h.ob_nd.1 _ e rfl),a,c,h.addRune hB hm⟩
theorem NT.GOk.appKid{w w':World}{x k:NT}{v:Value}(h:x.GOk w)(hkk:k.GOk w)(hkx:∀ b∈k.gb,b ∉ x.gb)(hB:zad (fun _=>False) 0 w' v (x.ks++[k]))(hm:Moves (zb1 x.kidsV) w (zb1 v) w') :
  w'.there x.pc 0 3∧∃(a:Option Addr) (c:Nat),(x.moreKid a c k).GOk (w'.setCell ⟨x.pc,2,none⟩ v)∧Keeps (·∈x.gb) w (w'.setCell ⟨x.pc,2,none⟩ v)∧∀ b∈(x.moreKid a c k).gb,b∈x.gb∨b∈k.gb∨w.heap.size≤b:=by
 have hr:=hB.1;rw[zbd,List.length_append,List.length_singleton] at hr;obtain⟨a,c,rfl⟩:=zb6 hr;have hp:=h.lt x.pc (by rw[NT.gb_eq];exact List.mem_append_left _ (List.mem_cons_self ..));exact⟨there_keeps h.g.own.there hm.1 hp (fun e=>h.ob_nd.2.1 _ e rfl),a,c,h.addKid hkk hkx hB hm⟩
def DoPost(x:NT)(r:T)(w:World)(e:Ending)(w':World):Prop:=e=.returned (.tuple #[])∧∃ x':NT,x'.GOk w'∧x'.pc=x.pc∧Hid (x'.er=r)∧Keeps (·∈x.gb) w w'
theorem do2_any(x u:NT)(o:OpL){t:T}(up:List Int)(i:Nat)(w:World)(hx:x.GOk w)(ho:o.In w 0 w.heap.size)(hk:o.kind=2)(hp:o.path.l=up++[(i:Int)])(hat:x.er.at up=some t)(hu:x.sub up=u)(hi:i < u.ks.length)(hl:up.length+1≤1048576)(hkl:u.ks.length≤1048576) :
  Calls Tryz.prog 19 #[.pointer (some ⟨x.pc,0,none⟩),o.val] w (DoPost x (T.setAt (u.er.kids ((u.ks.eraseIdx i).map NT.er)) x.er up) w):=by
 have hub:u.pc∈x.gb:=by
  obtain⟨rest,hp1,_⟩:=NT.gb_split hat;rw[hu] at hp1;exact hp1.mem_iff.2 (List.mem_append_left _ (by rw[NT.gb_eq];exact List.mem_append_left _ (List.mem_cons_self ..)))
 have TK:=zQ0 (fun w1 (g:Grew w w1)=>take12_any x u o.path.a o.path.c up i w1 (hx.grew g) (by have:=((ho.grew g zQ1).mono zQ1 g.size).1.1;rw[hp] at this;exact this) hat hu hi hl hkl);have HUB:=zQ0 hub;have hpl:o.path.l.length=up.length+1:=by rw[hp,List.length_append];rfl
 have HKI:=zQ0 hk;have HPL:=zQ0 hpl;clear hx ho hp hat hu hi hub hk hpl;unfold OpL.val
 go_enter Tryz.func19,Tryz.ntmps19
 go_upto_region 1 with fail
 generalize hW:w.alloc _=w1;obtain⟨g1,rO,_,z1⟩:=zat w o.cells _ w1 hW;clear hW;obtain⟨ov,hov⟩:∃ v,o.val=v:=⟨_,rfl⟩
 unfold OpL.val at hov;rw[hov];clear hov;have k0:=zcn rO (j:=0) rfl;have k1:=zcn rO (j:=1) rfl;rw[HKI.out] at k0;rw[HPL.out] at k1;have CT:=TK.out w1 g1;have G1:=zQ0 g1;clear rO z1 g1 TK;go_wp2_with fail
 refine CT.mono ?_;rintro e w2 ⟨rfl,x',q1,_,_,q4,q5,q6,_⟩;have HF:Hid (DoPost x (T.setAt (u.er.kids ((u.ks.eraseIdx i).map NT.er)) x.er up) w (.returned (.tuple #[])) w2):=⟨rfl,x',q1,q4,q5,(G1.out.keeps _).trans (q6.wider fun j _ e=>e ▸ HUB.out)⟩
 clear q1 q4 q5 q6 CT k0 k1;go_wp2_with fail
 go_end0
 exact HF.out
def NT.toRunes(x:NT)(a:Option Addr)(c:Nat)(L:List Int):NT:=.mk x.lf x.pa x.pc x.ps a c (x.ts.headD 0::L) x.ka x.kc x.ks
theorem NT.GOk.newRunes{w w':World}{x:NT}{a:Option Addr}{c:Nat}{L:List Int}(h:x.GOk w)(hB:zaa (fun _=>False) 0 w' (.slice a L.length c) L)(hm:Moves (zb1 x.runesV) w (zb1 (.slice a (L.length) c)) w') :
  (x.toRunes a c L).GOk (w'.setCell ⟨x.pc,1,none⟩ (.slice a (L.length) c))∧Keeps (·∈x.gb) w (w'.setCell ⟨x.pc,1,none⟩ (.slice a (L.length) c))∧∀ b∈(x.toRunes a c L).gb,b∈x.gb∨w.heap.size≤b:=by
 obtain⟨d1,d2,d3⟩:=h.ob_nd;have hown:=h.g.own;have hobg:∀ b∈x.ob,b∈x.gb:=fun b hb=>by rw[NT.gb_eq];exact List.mem_append_left _ hb
 have hrb:∀ j,zb1 x.runesV j→j∈x.ob:=fun j hj=>List.mem_cons_of_mem _ (List.mem_append_left _ (mem_ownL.2 hj));have hkb:∀ j,zb1 x.kidsV j→j∈x.ob:=fun j hj=>List.mem_cons_of_mem _ (List.mem_append_right _ (mem_ownL.2 hj));have hpl:x.pc < w.heap.size:=h.lt _ (hobg _ (List.mem_cons_self ..));have hnd:=h.nd;rw[NT.gb_eq] at hnd;obtain⟨_,hn2,hd⟩:=List.nodup_append.1 hnd;have hrow:=hB.1;rw[zbc] at hrow
 have hnew:∀ j,zb1 (.slice a (L.length) c) j→j≠x.pc∧¬ zb1 x.kidsV j∧j ∉ NT.gbs x.ks:=fun j hj=>by
  rcases hm.2 j hj with h1 | h1
  ·exact⟨d1 j h1,d3 j h1,fun hg=>hd j (hrb j h1) j hg rfl⟩
  ·refine⟨by omega,fun hk=>?_,fun hg=>?_⟩
   ·have:=h.lt j (hobg j (hkb j hk));omega
   ·have:=h.lt j (by rw[NT.gb_eq];exact List.mem_append_right _ hg);omega
 have k1:Keeps (·=x.pc) w' (w'.setCell ⟨x.pc,1,none⟩ (.slice a (L.length) c)):=(Keeps.refl (·=x.pc) w').own _ _;have kk:Keeps (·∈x.ob) w (w'.setCell ⟨x.pc,1,none⟩ (.slice a (L.length) c)):=(hm.1.wider fun i _ hi=>hrb i hi).trans (k1.wider fun i _ e=>e ▸ List.mem_cons_self ..);have hc2:=zcp hown.cells hm.1 hpl (fun e=>d1 _ e rfl);have ht2:=there_keeps hown.there hm.1 hpl (fun e=>d1 _ e rfl);have hk2:=zca hown.kids hm.1 (fun j hj e=>d3 j e hj);have hsz:(w'.setCell ⟨x.pc,1,none⟩ (.slice a (L.length) c)).heap.size=w'.heap.size:=World.size_setCell ..;have hwz:=hm.1.size
 have hob:(x.toRunes a c L).ob=x.pc::(ownL (.slice a (L.length) c)++ownL x.kidsV):=by
  unfold NT.ob NT.runesV NT.kidsV NT.toRunes;simp only[NT.pc_mk,NT.ta_mk,NT.tc_mk,NT.ts_mk,NT.ka_mk,NT.kc_mk,NT.ks_mk]
  rfl
 refine⟨NT.GOk.make ?_ (fun k hk'=>((h.kid hk').keeps kk (fun b hb hm'=>hd b hm' b (NT.mem_gbs hk' hb) rfl)).g) hn2 ?_ (fun b hb hm'=>?_) (fun b hb=>?_) (fun b hb=>?_),kk.wider (fun i _ hi=>hobg i hi),fun b hb=>?_⟩
 ·refine⟨?_,zdv ht2 _ _,?_,zca hk2 k1 (fun j hj=>d2 j hj),by simp[NT.toRunes],hown.lf,hown.ps⟩
  ·have h3:=ht2 1 (by decide);intro j v hj
   match j,hj with
   | 0,hj =>
    rw[World.cell?_setCell_other _ _ _ _ (by simp)];refine hc2 0 v ?_;rw[← hj]
    rfl
   | 1,hj =>
    have hv:v=.slice a (L.length) c:=by
     have:(some (.slice a L.length c):Option Value)=some v:=hj;injection this with e;exact e.symm
    subst hv;exact World.cell?_setCell_same' _ _ _ (by simpa using h3.1)
   | 2,hj=>rw[World.cell?_setCell_other _ _ _ _ (by simp)];exact hc2 2 v hj
  ·have:=zca hrow k1 (fun j hj=>(hnew j hj).1);exact this
 ·rw[hob];refine List.nodup_cons.2 ⟨fun hm'=>?_,List.nodup_append.2 ⟨zb0 _,zb0 _,fun p hp q hq e=>?_⟩⟩
  ·rcases List.mem_append.1 hm' with h1 | h1
   ·exact (hnew _ (mem_ownL.1 h1)).1 rfl
   ·exact d2 _ (mem_ownL.1 h1) rfl
  ·exact (hnew p (mem_ownL.1 hp)).2.1 (e ▸ mem_ownL.1 hq)
 ·rw[hob] at hb;have hm':b∈NT.gbs x.ks:=hm'
  rcases List.mem_cons.1 hb with h1 | h1
  ·exact hd _ (List.mem_cons_self ..) b hm' h1.symm
  ·rcases List.mem_append.1 h1 with h1 | h1
   ·exact (hnew b (mem_ownL.1 h1)).2.2 hm'
   ·exact hd b (hkb b (mem_ownL.1 h1)) b hm' rfl
 ·rw[hob] at hb;rw[hsz]
  rcases List.mem_cons.1 hb with h1 | h1
  ·omega
  ·rcases List.mem_append.1 h1 with h1 | h1
   ·exact (hrow.lt b (mem_ownL.1 h1)).2
   ·have:=h.lt b (hobg b (hkb b (mem_ownL.1 h1)));omega
 ·have hb:b∈NT.gbs x.ks:=hb;rw[hsz];have:=h.lt b (by rw[NT.gb_eq];exact List.mem_append_right _ hb);omega
 ·rw[NT.gb_eq,hob] at hb
  rcases List.mem_append.1 hb with hb | hb
  ·rcases List.mem_cons.1 hb with h1 | h1
   ·exact .inl (h1 ▸ hobg _ (List.mem_cons_self ..))
   ·rcases List.mem_append.1 h1 with h1 | h1
    ·rcases hm.2 b (mem_ownL.1 h1) with h2 | h2
     ·exact .inl (hobg b (hrb b h2))
     ·exact .inr h2
    ·exact .inl (hobg b (hkb b (mem_ownL.1 h1)))
  ·exact .inl (by rw[NT.gb_eq];exact List.mem_append_right _ hb)
def NT.toKids(x:NT)(a:Option Addr)(c:Nat)(L:List NT):NT:=.mk x.lf x.pa x.pc x.ps x.ta x.tc x.ts a c L
theorem NT.GOk.newKids{w w':World}{x:NT}{a:Option Addr}{c:Nat}{L:List NT}(h:x.GOk w)(hL:∀ k∈L,k.GOk w)(hLn:(NT.gbs L).Nodup)(hLx:∀ b∈NT.gbs L,b ∉ x.ob)(hB:zad (fun _=>False) 0 w' (.slice a L.length c) L)(hm:Moves (zb1 x.kidsV) w (zb1 (.slice a L.length c)) w') :
  (x.toKids a c L).GOk (w'.setCell ⟨x.pc,2,none⟩ (.slice a L.length c))∧Keeps (·∈x.gb) w (w'.setCell ⟨x.pc,2,none⟩ (.slice a L.length c))∧∀ b∈(x.toKids a c L).gb,b∈x.gb∨b∈NT.gbs L∨w.heap.size≤b:=by
 obtain⟨d1,d2,d3⟩:=h.ob_nd;have hown:=h.g.own;have hobg:∀ b∈x.ob,b∈x.gb:=fun b hb=>by rw[NT.gb_eq];exact List.mem_append_left _ hb
 have hkg:∀ b∈NT.gbs x.ks,b∈x.gb:=fun b hb=>by rw[NT.gb_eq];exact List.mem_append_right _ hb
 have hrb:∀ j,zb1 x.runesV j→j∈x.ob:=fun j hj=>List.mem_cons_of_mem _ (List.mem_append_left _ (mem_ownL.2 hj));have hkb:∀ j,zb1 x.kidsV j→j∈x.ob:=fun j hj=>List.mem_cons_of_mem _ (List.mem_append_right _ (mem_ownL.2 hj));have hpb:x.pc∈x.ob:=List.mem_cons_self ..;have hpl:x.pc < w.heap.size:=h.lt _ (hobg _ hpb);have hnd:=h.nd;rw[NT.gb_eq] at hnd;obtain⟨_,hn2,hd⟩:=List.nodup_append.1 hnd;have hrow:=hB.1;rw[zbd] at hrow;have hobk:∀ b∈x.ob,b ∉ NT.gbs L:=fun b hb hg=>hLx b hg hb
 have hlt:∀ b∈NT.gbs L,b < w.heap.size:=fun b hb=>by
  obtain⟨k,hk1,hk2⟩:=NT.of_gbs hb;exact (hL k hk1).lt b hk2
 have hnew:∀ j,zb1 (.slice a L.length c) j→j≠x.pc∧¬ zb1 x.runesV j∧j ∉ NT.gbs L:=fun j hj=>by
  rcases hm.2 j hj with h1 | h1
  ·exact⟨d2 j h1,fun h2=>d3 j h2 h1,hobk j (hkb j h1)⟩
  ·refine⟨by omega,fun hr=>?_,fun hg=>?_⟩
   ·have:=h.lt j (hobg j (hrb j hr));omega
   ·have:=hlt j hg;omega
 have k1:Keeps (·=x.pc) w' (w'.setCell ⟨x.pc,2,none⟩ (.slice a L.length c)):=(Keeps.refl (·=x.pc) w').own _ _;have kk:Keeps (·∈x.ob) w (w'.setCell ⟨x.pc,2,none⟩ (.slice a L.length c)):=(hm.1.wider fun i _ hi=>hkb i hi).trans (k1.wider fun i _ e=>e ▸ List.mem_cons_self ..);have hc2:=zcp hown.cells hm.1 hpl (fun e=>d2 _ e rfl);have ht2:=there_keeps hown.there hm.1 hpl (fun e=>d2 _ e rfl);have hr2:=zca hown.runes hm.1 (fun j hj e=>d3 j hj e);have hsz:(w'.setCell ⟨x.pc,2,none⟩ (.slice a L.length c)).heap.size=w'.heap.size:=World.size_setCell ..;have hwz:=hm.1.size
 have hob:(x.toKids a c L).ob=x.pc::(ownL x.runesV++ownL (.slice a L.length c)):=by
  unfold NT.ob NT.runesV NT.kidsV NT.toKids;simp only[NT.pc_mk,NT.ta_mk,NT.tc_mk,NT.ts_mk,NT.ka_mk,NT.kc_mk,NT.ks_mk]
 refine⟨NT.GOk.make ?_ (fun q hq=>?_) ?_ ?_ (fun b hb hm'=>?_) (fun b hb=>?_) (fun b hb=>?_),kk.wider (fun i _ hi=>hobg i hi),fun b hb=>?_⟩
 ·refine⟨?_,zdv ht2 _ _,zca hr2 k1 (fun j hj=>d1 j hj),?_,hown.hts,hown.lf,hown.ps⟩
  ·have h3:=ht2 2 (by decide);intro j v hj
   match j,hj with
   | 0,hj=>rw[World.cell?_setCell_other _ _ _ _ (by simp)];exact hc2 0 v hj
   | 1,hj=>rw[World.cell?_setCell_other _ _ _ _ (by simp)];exact hc2 1 v hj
   | 2,hj =>
    have hv:v=.slice a L.length c:=by
     have:(some (.slice a L.length c):Option Value)=some v:=hj;injection this with e;exact e.symm
    subst hv;exact World.cell?_setCell_same' _ _ _ (by simpa using h3.1)
  ·have:=zca hrow k1 (fun j hj=>(hnew j hj).1)
   show World.ownsRow _ 0 _ 1 (.slice a L.length c) L.length (L.map _)
   exact this
 ·have hq:q∈L:=hq;have hqg:∀ b∈q.gb,b∈NT.gbs L:=fun b hb=>NT.mem_gbs hq hb;exact ((hL q hq).keeps kk (fun b hb hm'=>hobk b hm' (hqg b hb))).g
 ·exact hLn
 ·rw[hob];refine List.nodup_cons.2 ⟨fun hm'=>?_,List.nodup_append.2 ⟨zb0 _,zb0 _,fun p hp q hq e=>?_⟩⟩
  ·rcases List.mem_append.1 hm' with h1 | h1
   ·exact d1 _ (mem_ownL.1 h1) rfl
   ·exact (hnew _ (mem_ownL.1 h1)).1 rfl
  ·exact (hnew q (mem_ownL.1 hq)).2.1 (e ▸ mem_ownL.1 hp)
 ·rw[hob] at hb;have hm':b∈NT.gbs L:=hm'
  rcases List.mem_cons.1 hb with h1 | h1
  ·exact hobk _ hpb (h1 ▸ hm')
  ·rcases List.mem_append.1 h1 with h1 | h1
   ·exact hobk b (hrb b (mem_ownL.1 h1)) hm'
   ·exact (hnew b (mem_ownL.1 h1)).2.2 hm'
 ·rw[hob] at hb;rw[hsz]
  rcases List.mem_cons.1 hb with h1 | h1
  ·omega
  ·rcases List.mem_append.1 h1 with h1 | h1
   ·have:=h.lt b (hobg b (hrb b (mem_ownL.1 h1)));omega
   ·exact (hrow.lt b (mem_ownL.1 h1)).2
 ·have hb:b∈NT.gbs L:=hb;rw[hsz];have:=hlt b hb;omega
 ·rw[NT.gb_eq,hob] at hb
  rcases List.mem_append.1 hb with hb | hb
  ·rcases List.mem_cons.1 hb with h1 | h1
   ·exact .inl (h1 ▸ hobg _ hpb)
   ·rcases List.mem_append.1 h1 with h1 | h1
    ·exact .inl (hobg b (hrb b (mem_ownL.1 h1)))
    ·rcases hm.2 b (mem_ownL.1 h1) with h2 | h2
     ·exact .inl (hobg b (hkb b h2))
     ·exact .inr (.inr h2)
  ·exact .inr (.inl hb)
end Go.Proofs.YtbhbekocmpmjfaaGreatDoor
