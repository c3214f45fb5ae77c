/- A GHOST TAKES ANOTHER ONE'S RUNES, and its Kids. -/
import Derived.Test.YtccobobnmpafbaaGreatDoorK42
import Derived.Test.YtccobobnmpafbaaGreatDoorK40
import Derived.Test.YtccobobnmpafbaaGreatDoorK43
import Derived.Test.YtccobobnmpafbaaGreatDoorK02
import Derived.Test.YtccobobnmpafbaaGreatDoorK36
import Derived.Test.YtccobobnmpafbaaGreatDoorK34
import Derived.Test.YtccobobnmpafbaaGreatDoorK37
set_option maxRecDepth 100000
set_option maxHeartbeats 100000000
namespace Go.Proofs.YtccobobnmpafbaaGreatDoor
open Go Go.RowKit
theorem NT.GOk.sub_ok{w:World}{x:NT}{t:T}{p:List Int}(hx:x.GOk w)(hat:x.er.at p=some t):(x.sub p).GOk w/\∀ b∈(x.sub p).gb,b∈x.gb:=by
 obtain⟨rest,hp1,_⟩:=NT.gb_split hat;have hux:∀ b∈(x.sub p).gb,b∈x.gb:=fun b hb=>hp1.mem_iff.2 (List.mem_append_left _ hb);obtain⟨hn1,_,_⟩:=List.nodup_append.1 (hp1.nodup_iff.1 hx.nd);exact⟨⟨hx.g.sub hat,hn1,fun b hb=>hx.lt b (hux b hb)⟩,hux⟩
theorem sub_setAt{y:NT}{t:T}:∀ {p:List Int} {x:NT},x.er.at p=some t->(NT.setAt y x p).sub p=y:=by
 intro p
 induction p with
 | nil=>intro x _;rfl
 | cons i r ih =>
  intro x h;obtain⟨h0,h1,h2⟩:=T.at_of h;rw[NT.er_ks,List.length_map] at h1;rw[NT.er_ks,<- za2] at h2;have hi:i.toNat < x.ks.length:=by omega
  rw[NT.setAt_cons,NT.sub]
  have:(NT.mk x.lf x.pa x.pc x.ps x.ta x.tc x.ts x.ka x.kc (x.ks.set i.toNat (NT.setAt y (x.ks.getD i.toNat default) r))).ks.getD i.toNat default=NT.setAt y (x.ks.getD i.toNat default) r:=by
   rw[NT.ks_mk]
   simp[List.getD,hi]
  rw[this];exact ih h2
theorem NT.GOk.joinRunes{x b k:NT}{t:T}{p:List Int}{w w3:World}{a:Option Addr}{c:Nat}{L:List Int}(hx:x.GOk w)(hat:x.er.at p=some t)(hb:x.sub p=b)(hk:k.GOk w)(hd:∀ j∈k.gb,j ∉ x.gb)(hB:zaa (fun _=>False) 0 w3 (.slice a L.length c) L)(hm:Moves (zb4 b.runesV) w (zb4 (.slice a L.length c)) w3) :
  ∃ x2:NT,x2.GOk (w3.setCell ⟨b.pc,1,none⟩ (.slice a L.length c))/\k.GOk (w3.setCell ⟨b.pc,1,none⟩ (.slice a L.length c))/\(∀ j∈k.gb,j ∉ x2.gb)/\x2.pc=x.pc/\x2.er=T.setAt (b.toRunes a c L).er x.er p/\Keeps (·∈x.gb) w (w3.setCell ⟨b.pc,1,none⟩ (.slice a L.length c))/\(∀ j∈x2.gb,j∈x.gb\/w.heap.size<=j)/\x2.sub p=b.toRunes a c L/\x2.er.at p=some (b.toRunes a c L).er:=by
 obtain⟨hbO,hbx⟩:=hx.sub_ok hat;obtain⟨rest,hp1,hp2⟩:=NT.gb_split hat;rw[hb] at hbO hbx hp1 hp2;obtain⟨q1,q2,q3⟩:=hbO.newRunes hB hm;obtain⟨p1,p2⟩:=hp2 (b.toRunes a c L) rfl;have hput:=NT.GOk.put q2 (F:=[]) hx hat (by rw[hb];exact fun j hj=>.inl hj) (by rw[hb];rfl) q1 (by rw[hb];exact fun j hj=>(q3 j hj).imp id (fun h=>.inl h)) (fun j hj=>by cases hj)
 have hsub:∀ j∈(NT.setAt (b.toRunes a c L) x p).gb,j∈x.gb\/w.heap.size<=j:=fun j hj=>by
  rcases List.mem_append.1 (p1.mem_iff.1 hj) with h | h
  ·exact (q3 j h).imp (hbx j) id
  ·exact .inl (hp1.mem_iff.2 (List.mem_append_right _ h))
 refine⟨_,hput,hk.keeps q2 (fun j hj hjb=>hd j hj (hbx j hjb)),fun j hj hjx=>?_,p2,NT.setAt_er ..,q2.wider (fun j _ h=>hbx j h),hsub,sub_setAt hat,?_⟩
 ·rcases hsub j hjx with h | h
  ·exact hd j hj h
  ·have:=hk.lt j hj;omega
 ·rw[NT.setAt_er];exact T.at_setAt hat
theorem NT.GOk.joinKids{x b k:NT}{t:T}{p:List Int}{w w3:World}{a:Option Addr}{c:Nat}(hx:x.GOk w)(hat:x.er.at p=some t)(hb:x.sub p=b)(hk:k.GOk w)(hd:∀ j∈k.gb,j ∉ x.gb)(hB:zad (fun _=>False) 0 w3 (.slice a (b.ks++k.ks).length c) (b.ks++k.ks))(hm:Moves (zb4 b.kidsV) w (zb4 (.slice a (b.ks++k.ks).length c)) w3) :
  ∃ x2:NT,x2.GOk (w3.setCell ⟨b.pc,2,none⟩ (.slice a (b.ks++k.ks).length c))/\x2.pc=x.pc/\x2.er=T.setAt (.mk false [] b.ts (b.ks.map NT.er++k.ks.map NT.er)) x.er p/\Keeps (·∈x.gb) w (w3.setCell ⟨b.pc,2,none⟩ (.slice a (b.ks++k.ks).length c)):=by
 obtain⟨hbO,hbx⟩:=hx.sub_ok hat;obtain⟨rest,hp1,hp2⟩:=NT.gb_split hat;rw[hb] at hbO hbx hp1 hp2;have hbn:=hbO.nd;rw[NT.gb_eq] at hbn;obtain⟨_,hb2,hb3⟩:=List.nodup_append.1 hbn;have hkn:=hk.nd;rw[NT.gb_eq] at hkn;obtain⟨_,hk2,_⟩:=List.nodup_append.1 hkn;have hkg:∀ j∈NT.gbs k.ks,j∈k.gb:=fun j hj=>by rw[NT.gb_eq];exact List.mem_append_right _ hj
 have hbg:∀ j∈NT.gbs b.ks,j∈b.gb:=fun j hj=>by rw[NT.gb_eq];exact List.mem_append_right _ hj
 have hbo:∀ j∈b.ob,j∈b.gb:=fun j hj=>by rw[NT.gb_eq];exact List.mem_append_left _ hj
 obtain⟨q1,q2,q3⟩:=hbO.newKids (L:=b.ks++k.ks) (fun q hq=>by
   rcases List.mem_append.1 hq with h | h
   ·exact hbO.kid h
   ·exact hk.kid h)
  (by rw[NT.gbs_app];exact List.nodup_append.2 ⟨hb2,hk2,fun i hi j hj e=>hd j (hkg j hj) (hbx j (hbg j (e ▸ hi)))⟩)
  (fun j hj hjo=>by
   rw[NT.gbs_app] at hj
   rcases List.mem_append.1 hj with h | h
   ·exact hb3 j hjo j h rfl
   ·exact hd j (hkg j h) (hbx j (hbo j hjo))) hB hm
 obtain⟨p1,p2⟩:=hp2 (b.toKids a c (b.ks++k.ks)) rfl
 have hput:=NT.GOk.put q2 (F:=NT.gbs k.ks) hx hat (by rw[hb];exact fun j hj=>.inl hj) (by rw[hb];rfl) q1 (by
  rw[hb];intro j hj
  rcases q3 j hj with h | h | h
  ·exact .inl h
  ·rw[NT.gbs_app] at h
   rcases List.mem_append.1 h with h | h
   ·exact .inl (hbg j h)
   ·exact .inr (.inr h)
  ·exact .inr (.inl h)) (fun j hj hjx=>hd j (hkg j hj) hjx)
 refine⟨_,hput,p2,?_,q2.wider (fun j _ h=>hbx j h)⟩;rw[NT.setAt_er,NT.er_eq (b.toKids a c (b.ks++k.ks))]
 show T.setAt (.mk b.lf b.ps b.ts ((b.ks++k.ks).map NT.er)) _ _=_
 rw[hbO.g.own.lf,hbO.g.own.ps,List.map_append]
theorem zdu{w:World}{o:Oper}{a:Act}{K:Act->World->Prop}{Q:Exit->Act->World->Prop}(hgd:o.guard=none)(s x:Operand)(ho:o.op=.call { callee:=.builtin .append,args:=#[s,x],argTypes:=#[59,59] })(dst:Option Tmp)(hdst:o.dst=dst){S:Nat->Prop}{B:Nat}(v:Value)(L M:List NT)(hs:a.eval s=v)(hB:zad S B w v L)(xa:Option Addr)(c lo hi:Nat)(hx:a.eval x=.slice xa M.length c)(hrow:RowIn w lo hi xa M.length c 1 (fun i j=>([ptrV (M.getD i default)]:List Value).getD j undef))(h63:L.length+M.length<=4194304)(hbase:B<=w.heap.size)(h:∀ v' w',zad S B w' v' (L++M)->Moves (zb4 v) w (zb4 v') w'->K (a.put dst v') w'):Oper.wp Tryz.prog o a w K Q :=
 wp_append_built hgd s x 59 ho dst hdst Tryz.underlying59 infoPtr rfl (by decide) (by decide) ptr_len (fun x u hu=>by rw[List.mem_singleton.1 hu];rfl) v L M hs hB xa c lo hi hx hrow (fun _ _ _ _=>trivial) h63 hbase h
theorem map_erase(l:List NT)(i:Nat):(l.eraseIdx i).map NT.er=(l.map NT.er).eraseIdx i:=by
 rw[List.eraseIdx_eq_take_drop_succ,List.eraseIdx_eq_take_drop_succ,List.map_append,List.map_take,List.map_drop]
theorem merge_eq{g v y:T}{up:List Int}{i:Nat}(hv:g.at up=some v)(hi:i+1 < v.ks.length) :
  (T.setAt (v.kids (v.ks.eraseIdx (i+1))) g up).at (up++[(i:Int)])=some (v.ks.getD i default)/\T.setAt y (T.setAt (v.kids (v.ks.eraseIdx (i+1))) g up) (up++[(i:Int)])=T.setAt (v.kids (v.ks.take i++y::v.ks.drop (i+2))) g up:=by
 have hL:v.ks.eraseIdx (i+1)=v.ks.take i++v.ks.getD i default::v.ks.drop (i+2):=by
  rw[List.eraseIdx_eq_take_drop_succ,List.take_succ_eq_append_getElem (by omega),List.append_assoc]
  simp[List.getD,List.getElem?_eq_getElem (show i < v.ks.length by omega)]
 have hl:(v.ks.take i).length=i:=by rw[List.length_take];omega
 rw[hL];refine⟨T.at_the_kid (T.at_setAt hv) (T.kids_ks ..) hl,?_⟩;rw[T.setAt_kid (T.at_setAt hv) (T.kids_ks ..) hl,T.kids_kids,T.setAt_setAt hv]
theorem NT.GOk.joinRunesV{x b k:NT}{t:T}{p:List Int}{w w3:World}{v:Value}{L:List Int}(hx:x.GOk w)(hat:x.er.at p=some t)(hb:x.sub p=b)(hk:k.GOk w)(hd:∀ j∈k.gb,j ∉ x.gb)(hB:zaa (fun _=>False) 0 w3 v L)(hm:Moves (zb4 b.runesV) w (zb4 v) w3) :
  ∃ x2 b2:NT,x2.GOk (w3.setCell ⟨b.pc,1,none⟩ v)/\k.GOk (w3.setCell ⟨b.pc,1,none⟩ v)/\(∀ j∈k.gb,j ∉ x2.gb)/\x2.pc=x.pc/\x2.er=T.setAt b2.er x.er p/\Keeps (·∈x.gb) w (w3.setCell ⟨b.pc,1,none⟩ v)/\(∀ j∈x2.gb,j∈x.gb\/w.heap.size<=j)/\x2.sub p=b2/\x2.er.at p=some b2.er/\b2.pc=b.pc/\b2.ks=b.ks/\b2.kidsV=b.kidsV/\b2.ts=b.ts.headD 0::L:=by
 have hr:=hB.1;rw[zbc] at hr;obtain⟨a,c,rfl⟩:=zb9 hr;obtain⟨x2,h1,h2,h3,h4,h5,h6,h7,h8,h9⟩:=hx.joinRunes hat hb hk hd hB hm;exact⟨x2,b.toRunes a c L,h1,h2,h3,h4,h5,h6,h7,h8,h9,rfl,rfl,rfl,rfl⟩
theorem NT.GOk.joinKidsV{x b k:NT}{t:T}{p:List Int}{w w3:World}{v:Value}(hx:x.GOk w)(hat:x.er.at p=some t)(hb:x.sub p=b)(hk:k.GOk w)(hd:∀ j∈k.gb,j ∉ x.gb)(hB:zad (fun _=>False) 0 w3 v (b.ks++k.ks))(hm:Moves (zb4 b.kidsV) w (zb4 v) w3) :
  ∃ x2:NT,x2.GOk (w3.setCell ⟨b.pc,2,none⟩ v)/\x2.pc=x.pc/\x2.er=T.setAt (.mk false [] b.ts (b.ks.map NT.er++k.ks.map NT.er)) x.er p/\Keeps (·∈x.gb) w (w3.setCell ⟨b.pc,2,none⟩ v):=by
 have hr:=hB.1;rw[zbd] at hr;obtain⟨a,c,rfl⟩:=zb9 hr;exact hx.joinKids hat hb hk hd hB hm
theorem NT.GOk.at_keeps{w w':World}{x:NT}{O:Nat->Prop}(h:x.GOk w)(k:Keeps O w w')(hO:¬ O x.pc):w'.cell? ⟨x.pc,1,none⟩=some (.slice x.ta x.ts.tail.length x.tc)/\w'.cell? ⟨x.pc,2,none⟩=some (.slice x.ka x.ks.length x.kc):=by
 have hl:=h.lt x.pc (by rw[NT.gb_eq];exact List.mem_append_left _ (List.mem_cons_self ..));exact⟨(k.cell (p:=⟨x.pc,1,none⟩) hl hO).trans h.g.own.at.2.1,(k.cell (p:=⟨x.pc,2,none⟩) hl hO).trans h.g.own.at.2.2⟩
theorem NT.GOk.there_keeps{w w':World}{x:NT}{O:Nat->Prop}(h:x.GOk w)(k:Keeps O w w')(hO:¬ O x.pc):w'.there x.pc 0 3:=Go.Proofs.YtccobobnmpafbaaGreatDoor.there_keeps h.g.own.there k (h.lt x.pc (by rw[NT.gb_eq];exact List.mem_append_left _ (List.mem_cons_self ..))) hO
theorem do3_any(x u:NT)(o:OpL){t:T}(B:Nat)(up:List Int)(i:Nat)(w:World)(hx:x.GOk w)(hB:B<=w.heap.size)(ho:o.In w 0 B)(hxB:∀ b∈x.gb,B<=b)(hk:o.kind=3)(hp:o.path.l=up++[((i+1:Nat):Int)])(hat:x.er.at up=some t)(hu:x.sub up=u)(hi:i+1 < u.ks.length)(hl:up.length+1<=1048576)(hkl:u.ks.length<=1048576)(hrl:(u.ks.getD i default).ts.tail.length+(u.ks.getD (i+1) default).ts.tail.length<=1048576)(hml:(u.ks.getD i default).ks.length+(u.ks.getD (i+1) default).ks.length<=1048576) :
  Calls Tryz.prog 22 #[.pointer (some ⟨x.pc,0,none⟩),o.val] w (DoPost x (T.setAt (u.er.kids (u.er.ks.take i++((u.ks.getD i default).er.gjoin (u.ks.getD (i+1) default).er)::u.er.ks.drop (i+2))) x.er up) w):=by
 have hsp:u.pc∈x.gb/\∀ b∈u.gb,b∈x.gb:=by
  obtain⟨rest,hp1,_⟩:=NT.gb_split hat;rw[hu] at hp1;exact⟨hp1.mem_iff.2 (List.mem_append_left _ (by rw[NT.gb_eq];exact List.mem_append_left _ (List.mem_cons_self ..))),fun b hb=>hp1.mem_iff.2 (List.mem_append_left _ hb)⟩
 have hz:u.pc < w.heap.size:=hx.lt _ hsp.1;have hzB:=hxB _ hsp.1;have hue:=NT.sub_er hat;rw[hu] at hue;have hatE:x.er.at up=some u.er:=by rw[hue];exact hat
 have hME:=fun y=>merge_eq (y:=y) hatE (i:=i) (by rw[NT.er_ks,List.length_map];exact hi);have hdl:(u.ks.getD i default).er=u.er.ks.getD i default:=by rw[za2,<- NT.er_ks]
 have TK:=zQ0 (fun w1 (g:Grew w w1)=>take12_any x u o.path.a o.path.c up (i+1) w1 (hx.grew g) (by have:=((ho.grew g hB).mono zQ1 (Nat.le_trans hB g.size)).1.1;rw[hp] at this;exact this) hat hu hi hl hkl)
 have HPR:=zQ0 (fun w1 w2 (g:Grew w w1) (q6:Keeps (·=u.pc) w1 w2)=>(by
  rw[<- hp]
  exact ((IntsIn.agree (ho.grew g hB).1.1 (q6.agree (Nat.le_trans hB g.size) (fun k _ h2 e=>by omega))).mono zQ1 (Nat.le_trans (Nat.le_trans hB g.size) q6.size)):IntsIn w2 0 w2.heap.size o.path.a o.path.c (up++[((i+1:Nat):Int)])))
 have HER:=zQ0 (fun(x':NT) (h:x'.er=T.setAt (u.er.kids ((u.ks.eraseIdx (i+1)).map NT.er)) x.er up)=>(by
  have e:(u.ks.eraseIdx (i+1)).map NT.er=u.er.ks.eraseIdx (i+1):=by rw[NT.er_ks];exact map_erase _ _
  rw[e] at h;have h1:=(hME default).1;rw[<- h,<- hdl] at h1
  exact⟨h1,fun y=>by rw[h];exact (hME y).2⟩:x'.er.at (up++[(i:Int)])=some (u.ks.getD i default).er/\∀ y,T.setAt y x'.er (up++[(i:Int)])=T.setAt (u.er.kids (u.er.ks.take i++y::u.er.ks.drop (i+2))) x.er up))
 have HUB:=zQ0 hsp.1;have HKI:=zQ0 hk;have HPL:=zQ0 (show o.path.l.length=up.length+1 by rw[hp,List.length_append];rfl);have HZ:=zQ0 hz;have HUL:=zQ0 hl;have HIL:Hid (i+1<=1048576):=by show _<=_;omega
 have HRL:=zQ0 hrl;have HML:=zQ0 hml;clear hx ho hxB hB hp hat hu hi hsp hk hz hzB hue hatE hME hdl hl hkl hrl hml;unfold OpL.val
 go_enter Tryz.func22,Tryz.ntmps22
 go_upto_region 1 with fail
 generalize hW:w.alloc _=w1;obtain⟨g1,rO,_,z1⟩:=zas w o.cells _ w1 hW;clear hW;obtain⟨ov,hov⟩:∃ v,o.val=v:=⟨_,rfl⟩
 unfold OpL.val at hov;rw[hov];clear hov;have k0:=zcp rO (j:=0) rfl;have k1:=zcp rO (j:=1) rfl;rw[HKI.out] at k0;rw[HPL.out] at k1;have HK2:=zQ0 (fun(w2:World) (q:Keeps (·=u.pc) w1 w2)=>(q.cell (p:=⟨w.heap.size,1,none⟩) (by show w.heap.size < _;omega) (by have:=HZ.out;show ¬ w.heap.size=u.pc;omega)).trans k1);have CT:=TK.out w1 g1;have G1:=zQ0 g1;clear rO z1 g1 TK;go_wp2_with fail
 refine CT.mono ?_;rintro e w2 ⟨rfl,x',q1,q2,q3,q4,q5,q6,q7⟩;have k2:=HK2.out w2 q6;obtain⟨ha2,hs2⟩:=HER.out x' q5.out;have HI2:=zQ0 (HPR.out w1 w2 G1.out q6)
 have HX':=zQ0 (fun(w3:World) (k:Keeps (·∈x'.gb) w2 w3)=>(by
  have h1:Keeps (·∈x.gb) w w2:=(G1.out.keeps _).trans (q6.wider fun j _ e=>e ▸ HUB.out);have h2:Moves (·∈x.gb) w (·∈x'.gb) w2:=⟨h1,fun b hb=>(q7 b hb).imp id (fun h=>Nat.le_trans G1.out.size h)⟩
  exact (h2.trans (O'':=(·∈x'.gb)) ⟨k,fun _ h=>.inl h⟩).1:Keeps (·∈x.gb) w w3))
 have HQ1:=zQ0 q1;have HQ2:=zQ0 q2;have HQ3:=zQ0 q3;have HA2:=zQ0 ha2;have HS2:=zQ0 hs2;have HPC:=zQ0 q4;clear q1 q2 q3 q5 q6 CT k0 k1 HK2 ha2 hs2 HER HPR q7;generalize hkd:u.ks.getD (i+1) default=kd at *;generalize hbd:u.ks.getD i default=bd at *;clear hkd hbd;have hPL:(up++[((i+1:Nat):Int)]).length=up.length+1:=by rw[List.length_append];rfl
 have HPN:=zQ0 hPL;go_upto_region 10 with fail
 go_upto_region 11 with (at_builtin;go_loud (refine zdp (S:=fun _=>False) (B:=w2.heap.size) rfl (.const (.slice none 0 0)) (.tmp 47) rfl (some 48) rfl (.slice none 0 0) [] (up++[((i+1:Nat):Int)]) rfl Built.nil o.path.a o.path.c 0 w2.heap.size (congrArg (fun n:Nat=>Value.slice o.path.a n o.path.c) HPN.out.symm) (numRow HI2.out) (by rw[HPN.out,List.length_nil];have:=HUL.out;omega) zQ1 ?_);intro v3 w3 hB3 hk3)
 rw[List.nil_append] at hB3;have g3:Grew w2 w3:=(Grew.refl _).own hk3 (fun j hj=>absurd hj zb5);have hown:=hB3.1;rw[zbc] at hown;rw[hPL] at hown;obtain⟨va,vc,rfl⟩:=zb9 hown;have hrow:=zb6 (f:=fun j _=>.int .i64 ((up++[((i+1:Nat):Int)]).getD j 0)) (by rw[hPL];exact hown) (ints_at (up++[((i+1:Nat):Int)]));have hin:IntsIn w3 w2.heap.size w3.heap.size va vc (up++[((i+1:Nat):Int)]):=hrow.1;obtain⟨pb,po,rfl,hb1,hb2,c0⟩:=hin.at (j:=up.length) (by rw[hPL];omega);have f0:=hrow.2 (by rw[hPL];omega) _ rfl (po+up.length);have hgd:(up++[((i+1:Nat):Int)]).getD up.length 0=((i+1:Nat):Int):=by simp[List.getD]
 rw[hgd] at c0;have hset:(up++[((i+1:Nat):Int)]).set up.length (i:Int)=up++[(i:Int)]:=by simp
 have HS3:=zQ0 ((hin.set (j:=up.length) (by rw[hPL];omega) (i:Int)).mono (Nat.zero_le _) (by rw[World.size_setCell];exact Nat.le_refl _:w3.heap.size<=(w3.setCell ⟨pb,po+up.length,none⟩ (.int .i64 (i:Int))).heap.size));rw[hset] at HS3;have HG3:=zQ0 (g3.setCell (p:=⟨pb,po+up.length,none⟩) hb1 (.int .i64 (i:Int)));have hw1:IntKind.i64.wrap (((up.length+1:Nat):Int) - 1)=(up.length:Int):=by have:=HUL.out;rw[IntKind.wrap_i64];omega
 have hw2:IntKind.i64.wrap (((i+1:Nat):Int) - 1)=(i:Int):=by have:=HIL.out;rw[IntKind.wrap_i64];omega
 have hw3:wrap64 (up.length:Int)=(up.length:Int):=by have:=HUL.out;exact zdx (by omega) (by omega)
 have hw4:wrap64 (((i+1:Nat):Int) - 1)=(i:Int):=by have:=HIL.out;rw[show (((i+1:Nat):Int) - 1)=(i:Int) by omega];exact zdx (by omega) (by omega)
 obtain⟨zi,hzi⟩:∃ z:Int,z=((i+1:Nat):Int):=⟨_,rfl⟩
 rw[<- hzi] at c0 hw2 hw4;clear hin hrow hown hB3 hk3 g3 hset hgd k2 hPL hzi;go_upto_region 12 with fail
 generalize World.setCell w3 _ _=w4 at *;have hI4:IntsIn w4 0 w4.heap.size (some ⟨pb,po,none⟩) vc (up++[(i:Int)]):=HS3.out;have CF:=za8 x' (some ⟨pb,po,none⟩) vc (up++[(i:Int)]) w4 (HQ1.out.grew HG3.out).g hI4 HA2.out (by rw[List.length_append];exact HUL.out);have hbl:(up++[(i:Int)]).length=up.length+1:=by rw[List.length_append];rfl
 rw[hbl,HPC.out] at CF;go_wp2_with fail
 refine CF.mono ?_;rintro e w5 ⟨rfl,e2⟩;rw[e2];clear CF e2 hI4 c0 f0 hbl;have hX4:=HQ1.out.grew HG3.out;have hK4:=HQ2.out.grew HG3.out;have hbe:=NT.sub_er HA2.out;obtain⟨hbO,hbx⟩:=hX4.sub_ok HA2.out;generalize hbb:x'.sub (up++[(i:Int)])=b at *;obtain⟨d1,d2,d3⟩:=hbO.ob_nd;have hbts:b.ts=bd.ts:=by rw[<- NT.er_ts b,hbe,NT.er_ts]
 have hbks:b.ks.length=bd.ks.length:=by have:=congrArg (fun z:T=>z.ks.length) hbe;simpa using this
 have hKpc:kd.pc∈kd.gb:=by rw[NT.gb_eq];exact List.mem_append_left _ (List.mem_cons_self ..)
 have hbr:∀ j,zb4 b.runesV j->j∈x'.gb:=fun j hj=>hbx j (by rw[NT.gb_eq];exact List.mem_append_left _ (List.mem_cons_of_mem _ (List.mem_append_left _ (mem_ownL.2 hj))));have hbk:∀ j,zb4 b.kidsV j->j∈x'.gb:=fun j hj=>hbx j (by rw[NT.gb_eq];exact List.mem_append_left _ (List.mem_cons_of_mem _ (List.mem_append_right _ (mem_ownL.2 hj))));have KB:=zQ0 (fun(w':World) (k:Keeps (zb4 b.runesV) w4.drew w')=>(have k':Keeps (zb4 b.runesV) w4 w':=((Grew.refl w4).drew.keeps _).trans k;⟨(hbO.at_keeps k' (fun h=>d1 _ h rfl)).1,(hK4.at_keeps k' (fun h=>HQ3.out _ hKpc (hbr _ h))).1,hbO.there_keeps k' (fun h=>d1 _ h rfl)⟩:w'.cell? ⟨b.pc,1,none⟩=some (.slice b.ta b.ts.tail.length b.tc)/\w'.cell? ⟨kd.pc,1,none⟩=some (.slice kd.ta kd.ts.tail.length kd.tc)/\w'.there b.pc 0 3));have HN:=zQ0 (hbO.g.own.nums.grew (Grew.refl w4).drew);have HKR:=zQ0 (numRow (hK4.grew (Grew.refl w4).drew).g.own.ints);have HBL:Hid (b.ts.tail.length+kd.ts.tail.length<=4194304):=by show _<=_;rw[hbts];have:=HRL.out;omega
 have HJ:=zQ0 (fun(w':World) (v:Value) (hB:zaa (fun _=>False) 0 w' v (b.ts.tail++kd.ts.tail)) (hm:Moves (zb4 b.runesV) w4.drew (zb4 v) w')=>(hX4.grew (Grew.refl w4).drew).joinRunesV HA2.out hbb (hK4.grew (Grew.refl w4).drew) HQ3.out hB hm);have HGD:Hid (Grew w2 w4.drew):=HG3.out.drew;have HBE:=zQ0 hbe;have HBT:=zQ0 hbts;have HQH:=zQ0 hbO.g.own.hts;have HBK:=zQ0 hbks;clear hX4 hK4 hbe hbO hbx d1 d2 d3 hbts hbks hKpc hbr hbk HG3 HS3 HI2 hbb HQ1 HQ2 HQ3;go_upto_region 13 with fail
 refine zdw (Keeps (zb4 b.runesV) w4.drew) (fun j=>j.blt 10) (by kernel_rfl) ?_;generalize w4.drew=w5 at *;refine zdn (i:=0) (v:=.pointer (some ⟨b.pc,0,none⟩)) rfl (by kernel_rfl) (Or.inl ⟨rfl,fun w' hS=>by obtain⟨e1,e2,_⟩:=KB.out w' hS;go_simp⟩) (Keeps.refl _ _) ?_;refine zdn (i:=1) (v:=.pointer (some ⟨b.pc,0,none⟩)) rfl (by kernel_rfl) (Or.inl ⟨rfl,fun w' hS=>by obtain⟨e1,e2,_⟩:=KB.out w' hS;go_simp⟩) (Keeps.refl _ _) ?_;refine zdn (i:=2) (v:=.pointer (some ⟨b.pc,0,none⟩)) rfl (by kernel_rfl) (Or.inl ⟨rfl,fun w' hS=>by obtain⟨e1,e2,_⟩:=KB.out w' hS;go_simp⟩) (Keeps.refl _ _) ?_;refine zdn (i:=3) (v:=.pointer (some ⟨b.pc,1,none⟩)) rfl (by kernel_rfl) (Or.inl ⟨rfl,fun w' hS=>by obtain⟨e1,e2,_⟩:=KB.out w' hS;go_simp⟩) (Keeps.refl _ _) ?_;refine zdn (i:=4) (v:=.slice b.ta b.ts.tail.length b.tc) rfl (by kernel_rfl) (Or.inl ⟨rfl,fun w' hS=>by obtain⟨e1,e2,_⟩:=KB.out w' hS;go_simp⟩) (Keeps.refl _ _) ?_;refine zdn (i:=5) (v:=.pointer (some ⟨kd.pc,0,none⟩)) rfl (by kernel_rfl) (Or.inl ⟨rfl,fun w' hS=>by obtain⟨e1,e2,_⟩:=KB.out w' hS;go_simp⟩) (Keeps.refl _ _) ?_;refine zdn (i:=6) (v:=.pointer (some ⟨kd.pc,0,none⟩)) rfl (by kernel_rfl) (Or.inl ⟨rfl,fun w' hS=>by obtain⟨e1,e2,_⟩:=KB.out w' hS;go_simp⟩) (Keeps.refl _ _) ?_;refine zdn (i:=7) (v:=.pointer (some ⟨kd.pc,1,none⟩)) rfl (by kernel_rfl) (Or.inl ⟨rfl,fun w' hS=>by obtain⟨e1,e2,_⟩:=KB.out w' hS;go_simp⟩) (Keeps.refl _ _) ?_;refine zdn (i:=8) (v:=.slice kd.ta kd.ts.tail.length kd.tc) rfl (by kernel_rfl) (Or.inl ⟨rfl,fun w' hS=>by obtain⟨e1,e2,_⟩:=KB.out w' hS;go_simp⟩) (Keeps.refl _ _) ?_;refine zdl (i:=9) (by kernel_rfl) rfl rfl ?_;intro K' hK';refine zdt (S:=fun _=>False) (B:=0) rfl (.tmp 64) (.tmp 68) rfl (some 69) rfl (.slice b.ta b.ts.tail.length b.tc) b.ts.tail kd.ts.tail (by go_simp) HN.out kd.ta kd.tc 0 w5.heap.size (by go_simp) HKR.out HBL.out (Nat.zero_le _) ?_;intro v6 w6 hB6 hm6;have hth:=(KB.out w6 hm6.1).2.2;obtain⟨f1,f2⟩:=hth 1 (by decide);simp only[Nat.zero_add] at f1 f2;obtain⟨old,f3⟩:=Option.isSome_iff_exists.1 f1;have HK6:=zQ0 hm6.1;have HJ6:=zQ0 (HJ.out w6 v6 hB6 hm6);obtain⟨n6,a6,c6,rfl⟩:=zcS hB6.1;refine hK' _ _ ⟨fun _=>HK6.out,?_⟩;clear hK' K' hB6 hm6 hth HJ HN HKR KB HBL;refine zdl (i:=10) (by kernel_rfl) rfl rfl ?_;intro K' hK';go_wp2_with fail
 first | refine⟨fun(h:false=true)=>(by cases h),?_⟩ | skip
 refine zdl (i:=11) (by kernel_rfl) rfl rfl ?_;intro K' hK';go_wp2_with fail
 first | refine⟨fun(h:false=true)=>(by cases h),?_⟩ | skip
 refine zdl (i:=12) (by kernel_rfl) rfl rfl ?_;intro K' hK';go_wp2_with fail
 first | refine⟨fun(h:false=true)=>(by cases h),?_⟩ | skip
 refine zdk (by kernel_rfl) ?_ _;generalize World.setCell w6 _ _=w7 at *;obtain⟨x2,b2,r1,r2,r3,r4,r5,r6,r7,r8,r9,r10,r11,r12,r13⟩:=HJ6.out;clear HJ6 f1 f2 f3 HK6;obtain⟨hbO,hbx⟩:=r1.sub_ok r9;rw[r8] at hbO hbx;obtain⟨d1,d2,d3⟩:=hbO.ob_nd;have hKpc:kd.pc∈kd.gb:=by rw[NT.gb_eq];exact List.mem_append_left _ (List.mem_cons_self ..)
 have hbk:∀ j,zb4 b2.kidsV j->j∈x2.gb:=fun j hj=>hbx j (by rw[NT.gb_eq];exact List.mem_append_left _ (List.mem_cons_of_mem _ (List.mem_append_right _ (mem_ownL.2 hj))));have KB:=zQ0 (fun(w':World) (k:Keeps (zb4 b2.kidsV) w7.drew w')=>(have k':Keeps (zb4 b2.kidsV) w7 w':=((Grew.refl w7).drew.keeps _).trans k;⟨by have:=(hbO.at_keeps k' (fun h=>d2 _ h rfl)).2;rw[r10] at this;exact this,(r2.at_keeps k' (fun h=>r3 _ hKpc (hbk _ h))).2,by have:=hbO.there_keeps k' (fun h=>d2 _ h rfl);rw[r10] at this;exact this⟩:w'.cell? ⟨b.pc,2,none⟩=some (.slice b2.ka b2.ks.length b2.kc)/\w'.cell? ⟨kd.pc,2,none⟩=some (.slice kd.ka kd.ks.length kd.kc)/\w'.there b.pc 0 3));have HN:=zQ0 (hbO.g.own.ptrs.grew (Grew.refl w7).drew);have HKR:=zQ0 ((r2.grew (Grew.refl w7).drew).g.own.row);have HBL:Hid (b2.ks.length+kd.ks.length<=4194304):=by show _<=_;rw[r11,HBK.out];have:=HML.out;omega
 have HJ:=zQ0 (fun(w':World) (v:Value) (hB:zad (fun _=>False) 0 w' v (b2.ks++kd.ks)) (hm:Moves (zb4 b2.kidsV) w7.drew (zb4 v) w')=>(r1.grew (Grew.refl w7).drew).joinKidsV r9 r8 (r2.grew (Grew.refl w7).drew) r3 hB hm);rw[r10] at HJ;have hpts:kd.er.ts.tail=kd.ts.tail:=by rw[NT.er_ts]
 have HRES:Hid (T.setAt (.mk false [] b2.ts (b2.ks.map NT.er++kd.ks.map NT.er)) x2.er (up++[(i:Int)])=T.setAt (u.er.kids (u.er.ks.take i++(bd.er.gjoin kd.er)::u.er.ks.drop (i+2))) x.er up):=by
  show _=_
  have hne:bd.ts.headD 0::bd.ts.tail=bd.ts:=by
   have h:=hbO.g.own.hts;have h':b.ts≠[]:=HQH.out;rw[HBT.out] at h'
   cases hb:bd.ts with
   | nil=>exact absurd hb h'
   | cons l r=>rfl
  have hk1:b.ks.map NT.er=bd.er.ks:=by rw[<- NT.er_ks,HBE.out]
  have e:(T.mk false [] b2.ts (b2.ks.map NT.er++kd.ks.map NT.er))=bd.er.gjoin kd.er:=by
   rw[r13,r11,hk1,HBT.out];unfold T.gjoin;rw[NT.er_ts bd,hpts,NT.er_ks kd,<- List.cons_append,hne]
  rw[e,r5,T.setAt_setAt HA2.out,HS2.out]
 have HX3:=zQ0 (fun(w3:World) (k:Keeps (·∈x2.gb) w7.drew w3)=>(by
  have h1:Keeps (·∈x'.gb) w2 w7:=(HGD.out.keeps _).trans r6;have h2:Moves (·∈x'.gb) w2 (·∈x2.gb) w7:=⟨h1,fun b hb=>(r7 b hb).imp id (fun h=>Nat.le_trans HGD.out.size h)⟩
  exact HX'.out w3 (h2.trans (O'':=(·∈x2.gb)) ⟨((Grew.refl w7).drew.keeps _).trans k,fun _ h=>.inl h⟩).1:Keeps (·∈x.gb) w w3))
 have HP2:Hid (x2.pc=x.pc):=r4.trans HPC.out;clear hbO hbx d1 d2 d3 hKpc hbk r1 r2 r3 r4 r5 r6 r7 r8 r9 r10 r11 r12 r13 HX' HA2 HS2 HGD HBE HBT HBK hpts;go_upto_region 14 with fail
 refine zdw (Keeps (zb4 b2.kidsV) w7.drew) (fun j=>j.blt 10) (by kernel_rfl) ?_;generalize w7.drew=w8 at *;refine zdn (i:=0) (v:=.pointer (some ⟨b.pc,0,none⟩)) rfl (by kernel_rfl) (Or.inl ⟨rfl,fun w' hS=>by obtain⟨e1,e2,_⟩:=KB.out w' hS;go_simp⟩) (Keeps.refl _ _) ?_;refine zdn (i:=1) (v:=.pointer (some ⟨b.pc,0,none⟩)) rfl (by kernel_rfl) (Or.inl ⟨rfl,fun w' hS=>by obtain⟨e1,e2,_⟩:=KB.out w' hS;go_simp⟩) (Keeps.refl _ _) ?_;refine zdn (i:=2) (v:=.pointer (some ⟨b.pc,0,none⟩)) rfl (by kernel_rfl) (Or.inl ⟨rfl,fun w' hS=>by obtain⟨e1,e2,_⟩:=KB.out w' hS;go_simp⟩) (Keeps.refl _ _) ?_;refine zdn (i:=3) (v:=.pointer (some ⟨b.pc,2,none⟩)) rfl (by kernel_rfl) (Or.inl ⟨rfl,fun w' hS=>by obtain⟨e1,e2,_⟩:=KB.out w' hS;go_simp⟩) (Keeps.refl _ _) ?_;refine zdn (i:=4) (v:=.slice b2.ka b2.ks.length b2.kc) rfl (by kernel_rfl) (Or.inl ⟨rfl,fun w' hS=>by obtain⟨e1,e2,_⟩:=KB.out w' hS;go_simp⟩) (Keeps.refl _ _) ?_;refine zdn (i:=5) (v:=.pointer (some ⟨kd.pc,0,none⟩)) rfl (by kernel_rfl) (Or.inl ⟨rfl,fun w' hS=>by obtain⟨e1,e2,_⟩:=KB.out w' hS;go_simp⟩) (Keeps.refl _ _) ?_;refine zdn (i:=6) (v:=.pointer (some ⟨kd.pc,0,none⟩)) rfl (by kernel_rfl) (Or.inl ⟨rfl,fun w' hS=>by obtain⟨e1,e2,_⟩:=KB.out w' hS;go_simp⟩) (Keeps.refl _ _) ?_;refine zdn (i:=7) (v:=.pointer (some ⟨kd.pc,2,none⟩)) rfl (by kernel_rfl) (Or.inl ⟨rfl,fun w' hS=>by obtain⟨e1,e2,_⟩:=KB.out w' hS;go_simp⟩) (Keeps.refl _ _) ?_;refine zdn (i:=8) (v:=.slice kd.ka kd.ks.length kd.kc) rfl (by kernel_rfl) (Or.inl ⟨rfl,fun w' hS=>by obtain⟨e1,e2,_⟩:=KB.out w' hS;go_simp⟩) (Keeps.refl _ _) ?_;refine zdl (i:=9) (by kernel_rfl) rfl rfl ?_;intro K' hK';refine zdu (S:=fun _=>False) (B:=0) rfl (.tmp 76) (.tmp 80) rfl (some 81) rfl (.slice b2.ka b2.ks.length b2.kc) b2.ks kd.ks (by go_simp) HN.out kd.ka kd.kc 0 w8.heap.size (by go_simp) HKR.out HBL.out (Nat.zero_le _) ?_;intro v9 w9 hB9 hm9;have hth:=(KB.out w9 hm9.1).2.2;obtain⟨f1,f2⟩:=hth 2 (by decide);simp only[Nat.zero_add] at f1 f2;obtain⟨old,f3⟩:=Option.isSome_iff_exists.1 f1;have HK9:=zQ0 hm9.1;have HJ9:=zQ0 (HJ.out w9 v9 hB9 hm9);obtain⟨n9,a9,c9,rfl⟩:=zcS hB9.1;refine hK' _ _ ⟨fun _=>HK9.out,?_⟩;clear hK' K' hB9 hm9 hth HJ HN HKR KB HBL;refine zdl (i:=10) (by kernel_rfl) rfl rfl ?_;intro K' hK';go_wp2_with fail
 first | refine⟨fun(h:false=true)=>(by cases h),?_⟩ | skip
 refine zdl (i:=11) (by kernel_rfl) rfl rfl ?_;intro K' hK';go_wp2_with fail
 first | refine⟨fun(h:false=true)=>(by cases h),?_⟩ | skip
 refine zdl (i:=12) (by kernel_rfl) rfl rfl ?_;intro K' hK';go_wp2_with fail
 first | refine⟨fun(h:false=true)=>(by cases h),?_⟩ | skip
 refine zdk (by kernel_rfl) ?_ _
 go_end0
 obtain⟨x3,s1,s2,s3,s4⟩:=HJ9.out;exact⟨rfl,x3,s1,s2.trans HP2.out,by show _=_;rw[s3,HRES.out],HX3.out _ s4⟩
theorem DoPost.to{x:NT}{r r':T}{w w':World}{e:Ending}(h:DoPost x r w e w')(he:r=r'):DoPost x r' w e w':=he ▸ h
theorem erase_mid{c d:List T}{h:T}{i:Nat}(hi:c.length=i):(c++h::d).eraseIdx i=c++d:=by
 subst hi;rw[List.eraseIdx_append_of_length_le zQ1,Nat.sub_self];rfl
theorem zc6{c d:List T}{i:Nat}(hi:c.length=i):(c++d).take i=c/\(c++d).drop i=d:=by
 subst hi;exact⟨List.take_left,List.drop_left⟩
theorem getD_mid{c d:List T}{h:T}{i:Nat}(hi:c.length=i):(c++h::d).getD i default=h:=by
 subst hi
 simp[List.getD]
theorem zbJ{g n:T}(h:like g n){m:Nat}(hb:n.bulk<=m):g.ks.length<=m/\g.ts.tail.length<=m/\g.ts.tail.length=n.ts.length:=by
 have h1:=zbK (like_iff.1 h).2.2;have h2:=n.ks_bulk;have h3:=n.bulk_eq;have h4:=(like_iff.1 h).2.1;rw[List.length_tail];omega
theorem do_any(x:NT)(n:T)(s:SelE)(o:OpL)(B:Nat)(w:World)(hx:x.GOk w)(hg:like x.er n)(hB:B<=w.heap.size)(ho:o.In w 0 B)(hxB:∀ b∈x.gb,B<=b)(ha:(zak n s o.er).2.2=0)(hnb:n.bulk<=262144)(hot:o.er.Tiny)(hop:o.er.path.length<=262144)(hod:o.er.dest.length<=262144)(h4:o.kind≠4) :
  Calls Tryz.prog 22 #[.pointer (some ⟨x.pc,0,none⟩),o.val] w (DoPost x (doG o.er x.er) w):=by
 have ho':o.In w 0 w.heap.size:=ho.mono zQ1 hB;have hpl:o.path.l.length<=262144:=hop;have hdl:o.dest.l.length<=262144:=hod;have htx:o.text.length<=262144:=hot.2.2.1;have hnd:o.node.er.bulk<=262144:=hot.2.2.2;obtain⟨hm,h⟩:=zal ha;obtain⟨hc,hl,_,hf⟩:=may_ok hm;have sub:∀ {p:List Int} {v:T},x.er.at p=some v->(x.sub p).er=v:=fun h=>NT.sub_er h
 have klen:∀ {p:List Int} {v u:T},x.er.at p=some v->like v u->n.at p=some u->(x.sub p).ks.length<=262144/\(x.sub p).ts.tail.length<=262144/\(x.sub p).ks.length=v.ks.length/\(x.sub p).ts=v.ts:=fun {p v u} h1 h2 h3=>by
  have e:=sub h1;have hb:=zav h3;obtain⟨q1,q2,_⟩:=zbJ h2 (m:=262144) (by omega);have e1:v.ks.length=(x.sub p).ks.length:=by rw[<- e,NT.er_ks,List.length_map]
  have e2:v.ts=(x.sub p).ts:=by rw[<- e,NT.er_ts]
  exact⟨by omega,by rw[<- e2];exact q2,e1.symm,e2.symm⟩
 rcases h with ⟨h9,_,_,_⟩ | ⟨h9,hs,_,_⟩
 ·have h9:o.kind=9:=h9;rw[doG_own (.inr h9)];exact do69_any x o w hx (.inr h9)
 ·have hkk:=zbf hf;have hkk:o.kind=1\/o.kind=2\/o.kind=3\/o.kind=4\/o.kind=5\/o.kind=6\/o.kind=7\/o.kind=8\/o.kind=9:=hkk;have h9:o.kind≠9:=h9
  rcases (show o.kind=1\/o.kind=2\/o.kind=3\/o.kind=5\/o.kind=6\/o.kind=7\/o.kind=8 by omega) with h1 | h1 | h1 | h1 | h1 | h1 | h1
  ·obtain⟨up,i,u,a,b,e1,e2,_,e3,e4,_,e8⟩:=done1 hf h1 hs;obtain⟨v,c,d,g1,g2,g3,g4,g5,g6,g7⟩:=ghost1 h1 hg e1 e2 e3 e4;obtain⟨k1,_,k3,_⟩:=klen g1 g2 e2;have e1:o.path.l=up++[(i:Int)]:=e1;have hul:up.length+1<=262144:=by rw[e1,List.length_append] at hpl;exact hpl
   refine (do1_any x (x.sub up) o up i w hx ho' h1 e1 g1 rfl (by rw[k3,g3,List.length_append];omega) (by omega) (by omega) hnd).mono (fun e w' hD=>hD.to ?_);rw[g7,sub g1,g3,(zc6 g4).1,(zc6 g4).2]
   rfl
  ·obtain⟨up,i,u,a,b,e1,e2,e3,e4,e8⟩:=done2 hf h1 hs;obtain⟨v,h,c,d,g1,g2,g3,g4,g5,g6,g7,g8⟩:=ghostcut hg e2 e3 e4;obtain⟨k1,_,k3,_⟩:=klen g1 g2 e2
   have hd:doG o.er x.er=T.setAt (v.kids (c++d)) x.er up:=by
    have h1':o.er.kind=2:=h1;unfold doG;rw[if_neg (by omega),if_pos h1',e1,g8]
   have e1:o.path.l=up++[(i:Int)]:=e1;have hul:up.length+1<=262144:=by rw[e1,List.length_append] at hpl;exact hpl
   refine (do2_any x (x.sub up) o up i w hx ho' h1 e1 g1 rfl (by rw[k3,g3,List.length_append,List.length_cons];omega) (by omega) (by omega)).mono (fun e w' hD=>hD.to ?_);rw[hd,map_erase,<- NT.er_ks,sub g1,g3,erase_mid g4]
  ·obtain⟨up,i,u,y,k,a,b,e1,e2,e3,e4,_,_,_,e8⟩:=done3 (by omega) hf h1 hs
   obtain⟨v,hy,hk,c,d,g1,g2,g3,g4,g5,g6,g7,g8,g9⟩:=ghost3 h1 hg e1 e2 e3 e4 (by
    have h1:=zav e2;have h2:=u.ks_bulk;rw[e3,List.length_append] at h2
    omega)
   obtain⟨k1,_,k3,_⟩:=klen g1 g2 e2;have e1:o.path.l=up++[((i+1:Nat):Int)]:=e1;have hul:up.length+1<=262144:=by rw[e1,List.length_append] at hpl;exact hpl
   have hil:i+1 < (x.sub up).ks.length:=by rw[k3,g3,List.length_append,List.length_cons,List.length_cons];omega
   have hui:=zav e2
   have hkid:∀ z∈u.ks,z.bulk<=262144:=fun z hz=>by
    have:=T.bulk_kid hz;omega
   have b1:=zbJ g6 (hkid y (by rw[e3];simp));have b2:=zbJ g7 (hkid k (by rw[e3];simp));have q1:((x.sub up).ks.getD i default).er=hy:=by rw[za2,<- NT.er_ks,sub g1,g3,getD_mid g4]
   have q2:((x.sub up).ks.getD (i+1) default).er=hk:=by
    rw[za2,<- NT.er_ks,sub g1,g3,show c++hy::hk::d=(c++[hy])++hk::d by simp,getD_mid (by simp;omega)]
   have t1:((x.sub up).ks.getD i default).ts=hy.ts:=by rw[<- q1,NT.er_ts]
   have t2:((x.sub up).ks.getD (i+1) default).ts=hk.ts:=by rw[<- q2,NT.er_ts]
   have s1:((x.sub up).ks.getD i default).ks.length=hy.ks.length:=by rw[<- q1,NT.er_ks,List.length_map]
   have s2:((x.sub up).ks.getD (i+1) default).ks.length=hk.ks.length:=by rw[<- q2,NT.er_ks,List.length_map]
   refine (do3_any x (x.sub up) o B up i w hx hB ho hxB h1 e1 g1 rfl hil (by omega) (by omega) (by rw[t1,t2];omega) (by rw[s1,s2];omega)).mono (fun e w' hD=>hD.to ?_);rw[g9,sub g1,q1,q2,g3,(zc6 g4).1,show c++hy::hk::d=(c++[hy,hk])++d by simp,(zc6 (by simp;omega)).2]
  ·obtain⟨up,vp,i,j,u,v,k,r,a,b,c,d,e1,e2,e3,e4,er,f1,f2,f3,f4,f5,e8⟩:=done5 hf h1 hs;obtain⟨gu,h,gr,gv,a',b',c',d',g1,g2,g3,g4,g5,g6,g7,g8,g9,g10,g11,g12,g13,g14⟩:=ghost5 h1 hg e1 e2 e3 e4 er f1 f2 f4 f5;obtain⟨k1,_,k3,_⟩:=klen g1 g2 e2;have e1:o.path.l=up++[(i:Int)]:=e1;have hul:up.length+1<=262144:=by rw[e1,List.length_append] at hpl;exact hpl
   have f1:o.dest.l=vp++[(j:Int)]:=f1;have hvl:vp.length+1<=262144:=by rw[f1,List.length_append] at hdl;exact hdl
   have hrb:r.bulk<=n.bulk:=by
    rw[er];have h1:=T.bulk_atSet e2 (y':=u.kids (a++b))
    have h2:(u.kids (a++b)).bulk<=u.bulk:=by
     rw[T.bulk_eq,T.bulk_eq u,e3,T.bulkAll_append,T.kids_ks,T.bulkAll_append]
     show 1+zck u.ps+u.ts.length+_<=_
     simp only[T.bulkAll];omega
    omega
   have hvb:=zav f2;obtain⟨m1,_,_⟩:=zbJ g9 (m:=262144) (by omega)
   have hr:T.setAt ((x.sub up).er.kids (((x.sub up).ks.eraseIdx i).map NT.er)) x.er up=gr:=by
    rw[g6,map_erase,<- NT.er_ks,sub g1,g3,erase_mid g4]
   have q1:((x.sub up).ks.getD i default).er=h:=by rw[za2,<- NT.er_ks,sub g1,g3,getD_mid g4]
   refine (do5_any x (x.sub up) o B up vp i j w hx hB ho hxB h1 e1 g1 rfl (by rw[k3,g3,List.length_append,List.length_cons];omega) (by omega) (by omega) hr f1 g8 (by rw[g10,List.length_append];omega) (by omega) (by omega)).mono (fun e w' hD=>hD.to ?_);rw[g14,q1,g10,(zc6 g11).1,(zc6 g11).2]
  ·rw[doG_own (.inl h1)];exact do69_any x o w hx (.inl h1)
  ·obtain⟨k,k',e1,e2,e3⟩:=done6 hf (.inr (.inl h1)) hs;obtain⟨h,hh,hhl,hd⟩:=ghost7 h1 hg e1;obtain⟨k1,k2,k3,k4⟩:=klen hh hhl e1
   rcases e3 with ⟨z,_⟩ | ⟨_,_,hi,_⟩ | ⟨z,_⟩
   ·have z:o.kind=6:=z;omega
   ·obtain⟨h0,h1',_,_,_⟩:=insert_ok hi;have h0:0<=o.pos:=h0;have h1':o.pos<=k.ts.length:=h1';obtain⟨l,r,el,elen⟩:=like_ts hhl;obtain⟨q,hq⟩:=Int.eq_ofNat_of_zero_le h0;have ht:(x.sub o.path.l).ts=l::r:=k4.trans el;have k2:(x.sub o.path.l).ts.tail.length<=262144:=k2;refine (do7_any x (x.sub o.path.l) o q w hx ho' h1 hh rfl hq (by rw[ht,List.tail_cons];omega) (by omega) (by omega) (by omega)).mono (fun e w' hD=>hD.to ?_);rw[hd,ht,el]
    have hk:((x.sub o.path.l).ks.map NT.er)=h.ks:=by
     have hs:(x.sub o.path.l).er=h:=sub hh;rw[<- NT.er_ks,hs]
    rw[hk];have hp:o.er.pos.toNat+1=q+1:=by show o.pos.toNat+1=_;rw[hq];rfl
    rw[hp]
    rfl
   ·have z:o.kind=8:=z;omega
  ·obtain⟨k,k',e1,e2,e3⟩:=done6 hf (.inr (.inr h1)) hs;obtain⟨h,hh,hhl,hd⟩:=ghost8 h1 hg e1;obtain⟨k1,k2,k3,k4⟩:=klen hh hhl e1
   rcases e3 with ⟨z,_⟩ | ⟨z,_⟩ | ⟨_,_,hi,_⟩
   ·have z:o.kind=6:=z;omega
   ·have z:o.kind=7:=z;omega
   ·obtain⟨h0,h1',_,_⟩:=zcw hi;have h0:0<=o.pos:=h0;have h1':o.pos.toNat+o.text.length<=k.ts.length:=h1';obtain⟨l,r,el,elen⟩:=like_ts hhl;obtain⟨q,hq⟩:=Int.eq_ofNat_of_zero_le h0;have ht:(x.sub o.path.l).ts=l::r:=k4.trans el;have k2:(x.sub o.path.l).ts.tail.length<=262144:=k2;refine (do8_any x (x.sub o.path.l) o q w hx ho' h1 hh rfl hq (by rw[ht,List.tail_cons];rw[hq] at h1';omega) (by omega) (by omega)).mono (fun e w' hD=>hD.to ?_);rw[hd,ht,el]
    have hk:((x.sub o.path.l).ks.map NT.er)=h.ks:=by
     have hs:(x.sub o.path.l).er=h:=sub hh;rw[<- NT.er_ks,hs]
    rw[hk];have hp:o.er.pos.toNat+1=q+1:=by show o.pos.toNat+1=_;rw[hq];rfl
    have hp2:q+1+o.er.text.length=(q+o.text.length)+1:=by show q+1+o.text.length=_;omega
    rw[hp,hp2]
    rfl
end Go.Proofs.YtccobobnmpafbaaGreatDoor
