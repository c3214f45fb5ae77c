/- (*redlineref12.Ghost).take: the contract. -/
import Derived.Test.YtccobobnmpafbaaGreatDoorK39
import Derived.Test.YtccobobnmpafbaaGreatDoorK06
import Derived.Test.YtccobobnmpafbaaGreatDoorK03
set_option maxRecDepth 100000
set_option maxHeartbeats 100000000
namespace Go.Proofs.YtccobobnmpafbaaGreatDoor
open Go Go.RowKit
theorem NT.reKids_er(u:NT)(a:Option Addr)(c:Nat)(ks:List NT):(u.reKids a c ks).er=u.er.kids (ks.map NT.er):=by
 unfold NT.reKids T.kids;rw[NT.er_eq,NT.er_lf,NT.er_ps,NT.er_ts];rfl
theorem NT.gbs_erase_nd{l:List NT}{i:Nat}(hi:i < l.length)(h:(NT.gbs l).Nodup):(NT.gbs (l.eraseIdx i)).Nodup/\∀ b∈(l.getD i default).gb,b ∉ NT.gbs (l.eraseIdx i):=by
 have h2:=(NT.gbs_get hi).nodup_iff.1 h;obtain⟨_,h3,h4⟩:=List.nodup_append.1 h2;exact⟨h3,fun b hb hm=>h4 b hb b hm rfl⟩
theorem NT.gbs_erase_sub{l:List NT}{i:Nat}(hi:i < l.length):∀ b∈NT.gbs (l.eraseIdx i),b∈NT.gbs l:=fun _b hb=>(NT.gbs_get hi).mem_iff.2 (List.mem_append_right _ hb)
def TakePost(x u:NT)(up:List Int)(i:Nat)(w:World)(e:Ending)(w':World):Prop :=
 e=.returned (.pointer (some ⟨(u.ks.getD i default).pc,0,none⟩))/\∃ x':NT,x'.GOk w'/\(u.ks.getD i default).GOk w'/\(∀ b∈(u.ks.getD i default).gb,b ∉ x'.gb)/\x'.pc=x.pc/\Hid (x'.er=T.setAt (u.er.kids ((u.ks.eraseIdx i).map NT.er)) x.er up)/\Keeps (·=u.pc) w w'/\∀ b∈x'.gb,b∈x.gb\/w.heap.size<=b
theorem take_post{x u:NT}{t:T}{up:List Int}{i:Nat}{w w2:World}{a2:Option Addr}{c2:Nat}(hx:x.GOk w)(hat:x.er.at up=some t)(hu:x.sub up=u)(hi:i < u.ks.length)(hg:Grew w w2)(hrow:w2.ownsRow w.heap.size 55 1 (.slice a2 (u.ks.eraseIdx i).length c2) (u.ks.eraseIdx i).length ((u.ks.eraseIdx i).map ptrV)) :
  TakePost x u up i w (.returned (.pointer (some ⟨(u.ks.getD i default).pc,0,none⟩))) (w2.setCell ⟨u.pc,2,none⟩ (.slice a2 (u.ks.eraseIdx i).length c2)):=by
 have huG:=hx.g.sub hat;rw[hu] at huG;obtain⟨rest,hp1,hp2⟩:=NT.gb_split hat;rw[hu] at hp1 hp2;have hnd:=hp1.nodup_iff.1 hx.nd;obtain⟨hn1,hn2,hn3⟩:=List.nodup_append.1 hnd;have hul:∀ b∈u.gb,b < w.heap.size:=fun b hb=>hx.lt b (hp1.mem_iff.2 (List.mem_append_left _ hb));have huO:u.GOk w:=⟨huG,hn1,hul⟩
 have hu2:=hn1;rw[NT.gb_eq] at hu2;obtain⟨_,hk1,hk2⟩:=List.nodup_append.1 hu2;obtain⟨he1,he2⟩:=NT.gbs_erase_nd hi hk1;have hsub:=NT.gbs_erase_sub (l:=u.ks) hi;have hkm:u.ks.getD i default∈u.ks:=zbi u.ks i hi;have hkk:∀ b∈(u.ks.getD i default).gb,b∈NT.gbs u.ks:=fun b hb=>NT.mem_gbs hkm hb
 obtain⟨q1,q2,q3⟩:=huO.reKids (a2:=a2) (c2:=c2) (ks:=u.ks.eraseIdx i) hg hrow (fun k hk=>(huO.kid (List.mem_of_mem_eraseIdx hk)).grew hg) he1 (fun b hb=>by
  have hb':=hsub b hb;refine⟨fun e=>hk2 u.pc (List.mem_cons_self ..) b hb' e.symm,fun h=>hk2 b (List.mem_cons_of_mem _ (List.mem_append_left _ (mem_ownL.2 h))) b hb' rfl,fun h=>?_⟩;have h1:=(hrow.lt b h).1;have h2:=hul b (by rw[NT.gb_eq];exact List.mem_append_right _ hb')
  omega)
 have hpc:(u.reKids a2 c2 (u.ks.eraseIdx i)).pc=u.pc:=rfl;have hO:∀ j,j=u.pc->j∈u.gb\/w.heap.size<=j\/j∈([]:List Nat):=fun j hj=>.inl (by rw[hj,NT.gb_eq];exact List.mem_append_left _ (List.mem_cons_self ..))
 have hb:∀ b∈(u.reKids a2 c2 (u.ks.eraseIdx i)).gb,b∈u.gb\/w.heap.size<=b\/b∈([]:List Nat):=fun b hb=>by
  rcases q3 b hb with h | h | h
  ·exact .inl (by rw[NT.gb_eq];exact List.mem_append_left _ h)
  ·exact .inr (.inl h)
  ·exact .inl (by rw[NT.gb_eq];exact List.mem_append_right _ (hsub b h))
 have hput:=NT.GOk.put q2 (F:=[]) hx hat (by rw[hu];exact hO) (by rw[hu];exact hpc) q1 (by rw[hu];exact hb) (fun b hb=>by cases hb);obtain⟨p1,p2⟩:=hp2 _ hpc;have hkO:=huO.kid hkm;refine⟨rfl,NT.setAt (u.reKids a2 c2 (u.ks.eraseIdx i)) x up,hput,hkO.keeps q2 (fun b hb' e=>hk2 u.pc (List.mem_cons_self ..) b (hkk b hb') e.symm),fun b hb' hm=>?_,p2,?_,q2,fun b hb'=>?_⟩
 ·have hbu:b∈u.gb:=by rw[NT.gb_eq];exact List.mem_append_right _ (hkk b hb')
  rcases List.mem_append.1 (p1.mem_iff.1 hm) with h | h
  ·rw[NT.gb_eq] at h
   rcases List.mem_append.1 h with h | h
   ·have h:b∈u.pc::(ownL u.runesV++ownL (.slice a2 (u.ks.eraseIdx i).length c2)):=h
    rcases List.mem_cons.1 h with h | h
    ·exact hk2 u.pc (List.mem_cons_self ..) b (hkk b hb') h.symm
    ·rcases List.mem_append.1 h with h | h
     ·exact hk2 b (List.mem_cons_of_mem _ (List.mem_append_left _ h)) b (hkk b hb') rfl
     ·have h1:=(hrow.lt b (mem_ownL.1 h)).1;have h2:=hul b hbu;omega
   ·exact he2 b hb' h
  ·exact hn3 b hbu b h rfl
 ·show _=_
  rw[NT.setAt_er,NT.reKids_er]
 ·rcases List.mem_append.1 (p1.mem_iff.1 hb') with h | h
  ·rcases hb b h with h | h | h
   ·exact .inl (hp1.mem_iff.2 (List.mem_append_left _ h))
   ·exact .inr h
   ·cases h
  ·exact .inl (hp1.mem_iff.2 (List.mem_append_right _ h))
theorem erase_parts(l:List NT)(i:Nat):l.take i++l.drop (i+1)=l.eraseIdx i:=(List.eraseIdx_eq_take_drop_succ l i).symm
theorem zcS{w:World}{base:Nat}{e:TypeId}{size:Nat}{v:Value}{n:Nat}{xs:List Value}(h:w.ownsRow base e size v n xs):∃(m:Nat) (a:Option Addr) (c:Nat),v=.slice a m c:=by
 obtain⟨a,c,h⟩:=zb9 h;exact⟨_,a,c,h⟩
theorem take12_any(x u:NT){t:T}(pa:Option Addr)(pc:Nat)(up:List Int)(i:Nat)(w:World)(hx:x.GOk w)(hp:IntsIn w 0 w.heap.size pa pc (up++[(i:Int)]))(hat:x.er.at up=some t)(hu:x.sub up=u)(hi:i < u.ks.length)(hl:up.length+1<=1048576)(hkl:u.ks.length<=1048576) :
  Calls Tryz.prog 56 #[.pointer (some ⟨x.pc,0,none⟩),.slice pa (up.length+1) pc] w (TakePost x u up i w):=by
 have hpu:IntsIn w 0 w.heap.size pa pc up:=by
  have:=IntsIn.take hp (k:=up.length) (by simp);rw[List.take_left' rfl] at this;exact this
 have FT:=zQ0 (za8 x pa pc up w hx.g hpu hat (by omega));rw[hu] at FT;have hcap:up.length+1<=pc:=by have:=hp.1.2.1;rw[List.length_append] at this;exact this
 obtain⟨pb,po,rfl,_,hpb,hpcell⟩:=hp.at (j:=up.length) (by simp);have hpi:(up++[(i:Int)]).getD up.length 0=(i:Int):=by simp[List.getD]
 rw[hpi] at hpcell;have huG:=hx.g.sub hat;rw[hu] at huG;have HPost:=zQ0 (fun(w2:World) (a2:Option Addr) (c2:Nat) (hg:Grew w w2) (hrow:w2.ownsRow w.heap.size 55 1 (.slice a2 (u.ks.eraseIdx i).length c2) (u.ks.eraseIdx i).length ((u.ks.eraseIdx i).map ptrV))=>take_post hx hat hu hi hg hrow);have HROW:=zQ0 huG.own.row;have KC:=zQ0 (fun(w':World) (g:Grew w w')=>((hx.grew g).g.sub hat));rw[hu] at KC;obtain⟨c0,c1,c2⟩:=huG.own.at;obtain⟨kb,hka,hkb,hkc⟩:=huG.own.kid_at hi;rw[hka] at c2 HROW;unfold ptrV at hkc;have hkcap:u.ks.length<=u.kc/\u.kc<=maxLen:=⟨HROW.out.1.2.1,HROW.out.1.2.2⟩
 unfold maxLen at hkcap;have hw1:IntKind.i64.wrap (((up.length+1:Nat):Int) - 1)=(up.length:Int):=by rw[IntKind.wrap_i64];omega
 have hw2:IntKind.i64.wrap ((i:Int)+1)=(i:Int)+1:=by rw[IntKind.wrap_i64];omega
 have hlen1:(u.ks.take i).length=i:=by rw[List.length_take];omega
 have hlen2:(u.ks.drop (i+1)).length=u.ks.length - (i+1):=List.length_drop;have HT1:=zQ0 hlen1;have HT2:=zQ0 hlen2;have HE:=zQ0 (erase_parts u.ks i);have HI:=zQ0 hi;have HKA:=zQ0 hka;clear hka;clear hx hp hat hu hpu hpi huG hlen1 hlen2;generalize hkx:(u.ks.getD i default).pc=kp at *;clear hkx;have q1:(i:Int) < u.ks.length:=by omega
 have q2:(i:Int)<=u.kc:=by omega
 have q3:(up.length:Int)<=pc:=by omega
 go_enter Tryz.func56,Tryz.ntmps56
 go_wp2_with fail
 refine FT.out.mono ?_;rintro e w1 ⟨rfl,rfl⟩
 go_upto_region 6 with (at_builtin;go_loud (refine zdq (S:=fun _=>False) (B:=w1.heap.size) rfl (.tmp 29) (.tmp 35) rfl (some 36) rfl (.slice none 0 0) [] (u.ks.take i) rfl Built.nil (some ⟨kb,0,none⟩) u.kc 0 w1.heap.size (congrArg (fun n:Nat=>Value.slice (some ⟨kb,0,none⟩) n u.kc) HT1.out.symm) (HROW.out.take i (Nat.le_of_lt HI.out)) (by have:=HT1.out;simp only[List.length_nil];omega) zQ1 ?_);intro v1 w2 hB1 hk1)
 have g12:Grew w1 w2:=(Grew.refl _).own hk1 (fun j hj=>absurd hj zb5);have d2:=(KC.out w2 g12).own.at.2.2;have hth:=(KC.out w2 g12).own.there;rw[HKA.out] at d2;have HR2:=zQ0 (zcH HROW.out g12);have HG12:=zQ0 g12;have HB1:=zQ0 hB1;have HTH:=zQ0 hth;clear hk1 hB1 g12 hth c0 c1 c2 hkc hpcell FT;rw[List.nil_append] at HB1
 have fin:∀(M:List NT) (v2:Value) (w3:World),M=u.ks.drop (i+1)->zad (fun _=>False) w1.heap.size w3 v2 (u.ks.take i++M)->Moves (zb4 v1) w2 (zb4 v2) w3->Grew w1 w3/\TakePost x u up i w1 (.returned (.pointer (some ⟨kp,0,none⟩))) (w3.setCell ⟨u.pc,2,none⟩ v2):=by
  intro M v2 w3 hM hB hm;subst hM;rw[HE.out] at hB;have hg3:Grew w1 w3:=HG12.out.keep hm.1 (fun j hj=>(HB1.out.lt j hj).1);have h1:=hB.1;rw[zbd] at h1;obtain⟨a2,c2,rfl⟩:=zb9 h1;exact⟨hg3,HPost.out w3 a2 c2 hg3 h1⟩
 have HFIN:=zQ0 fin;clear fin
 by_cases hend:i+1=u.kc
 ·have HD:Hid (u.ks.drop (i+1)=[]):=by
   show _=_
   rw[List.drop_eq_nil_iff];omega
  have q4:¬ (i:Int)+1 < u.kc:=by omega
  have q5:(i:Int)+1<=u.kc:=by omega
  have q6:(u.ks.length:Int) - ((i:Int)+1)=0:=by omega
  go_wp2_with (at_builtin;go_loud (refine zdq (S:=fun _=>False) (B:=w1.heap.size) rfl (.tmp 38) (.tmp 45) rfl (some 46) rfl v1 (u.ks.take i) [] rfl HB1.out (some ⟨kb,0,none⟩) 0 0 w2.heap.size rfl ⟨⟨fun e=>(by cases e),Nat.le_refl _,Nat.zero_le _⟩,fun h=>absurd h (Nat.lt_irrefl _)⟩ (by have:=HT1.out;simp only[List.length_nil];omega) HG12.out.size ?_);intro v2 w3 hB2 hk2;have hg3:Grew w1 w3:=HG12.out.keep hk2.1 (fun j hj=>(HB1.out.lt j hj).1);obtain⟨f1,f2⟩:=(KC.out w3 hg3).own.there 2 (by decide);simp only[Nat.zero_add] at f1 f2;have d3:=(KC.out w3 hg3).own.at.2.2;obtain⟨n2,a2,cc2,rfl⟩:=zcS hB2.1;have HPP:=zQ0 (HFIN.out [] _ w3 HD.out.symm hB2 hk2))
  go_ret
  exact HPP.out.2
 ·have q4:(i:Int)+1 < u.kc:=by omega
  have q5:(i:Int)+1<=u.ks.length:=by omega
  have HCP:Hid (i+1<=u.kc):=by show _<=_;omega
  have HSL:Hid (Value.slice (some ⟨kb,i+1,none⟩) (u.ks.length - (i+1)) (u.kc - (i+1))=Value.slice (some ⟨kb,0+(i+1),none⟩) (u.ks.drop (i+1)).length (u.kc - (i+1))):=by show _=_;rw[HT2.out,Nat.zero_add]
  go_wp2_with (at_builtin;go_loud (refine zdq (S:=fun _=>False) (B:=w1.heap.size) rfl (.tmp 38) (.tmp 45) rfl (some 46) rfl v1 (u.ks.take i) (u.ks.drop (i+1)) rfl HB1.out (some ⟨kb,0+(i+1),none⟩) (u.kc - (i+1)) 0 w2.heap.size HSL.out (PtrRow.drop HR2.out (i+1) HCP.out) (by have:=HT1.out;have:=HT2.out;omega) HG12.out.size ?_);intro v2 w3 hB2 hk2;have hg3:Grew w1 w3:=HG12.out.keep hk2.1 (fun j hj=>(HB1.out.lt j hj).1);obtain⟨f1,f2⟩:=(KC.out w3 hg3).own.there 2 (by decide);simp only[Nat.zero_add] at f1 f2;have d3:=(KC.out w3 hg3).own.at.2.2;obtain⟨n2,a2,cc2,rfl⟩:=zcS hB2.1;have HPP:=zQ0 (HFIN.out _ _ w3 rfl hB2 hk2))
  go_ret
  exact HPP.out.2
theorem NT.gbs_ins(l:List NT)(i:Nat)(g:NT):(NT.gbs (l.take i++g::l.drop i)).Perm (g.gb++NT.gbs l):=by
 have h:NT.gbs l=NT.gbs (l.take i)++NT.gbs (l.drop i):=by rw[<- NT.gbs_app,List.take_append_drop]
 rw[NT.gbs_app,NT.gbs,h,<- List.append_assoc,<- List.append_assoc];exact List.perm_append_comm.append_right _
def PutPost(x u g:NT)(up:List Int)(i:Nat)(w:World)(e:Ending)(w':World):Prop :=
 e=.returned (.tuple #[])/\∃ x':NT,x'.GOk w'/\x'.pc=x.pc/\Hid (x'.er=T.setAt (u.er.kids ((u.ks.take i++g::u.ks.drop i).map NT.er)) x.er up)/\Keeps (·=u.pc) w w'/\∀ b∈x'.gb,b∈x.gb\/b∈g.gb\/w.heap.size<=b
theorem put_post{x u g:NT}{t:T}{up:List Int}{i:Nat}{w w2:World}{a2:Option Addr}{c2:Nat}(hx:x.GOk w)(hat:x.er.at up=some t)(hu:x.sub up=u)(hgk:g.GOk w)(hgx:∀ b∈g.gb,b ∉ x.gb)(hg:Grew w w2)(hrow:w2.ownsRow w.heap.size 55 1 (.slice a2 (u.ks.take i++g::u.ks.drop i).length c2) (u.ks.take i++g::u.ks.drop i).length ((u.ks.take i++g::u.ks.drop i).map ptrV)) :
  PutPost x u g up i w (.returned (.tuple #[])) (w2.setCell ⟨u.pc,2,none⟩ (.slice a2 (u.ks.take i++g::u.ks.drop i).length c2)):=by
 have hpm:=NT.gbs_ins u.ks i g
 have hmem:∀ k∈u.ks.take i++g::u.ks.drop i,k=g\/k∈u.ks:=fun k hk=>by
  rcases List.mem_append.1 hk with h | h
  ·exact .inr (List.mem_of_mem_take h)
  ·rcases List.mem_cons.1 h with h | h
   ·exact .inl h
   ·exact .inr (List.mem_of_mem_drop h)
 unfold PutPost;generalize u.ks.take i++g::u.ks.drop i=M at *;have huG:=hx.g.sub hat;rw[hu] at huG;obtain⟨rest,hp1,hp2⟩:=NT.gb_split hat;rw[hu] at hp1 hp2;have hnd:=hp1.nodup_iff.1 hx.nd;obtain⟨hn1,hn2,hn3⟩:=List.nodup_append.1 hnd;have hul:∀ b∈u.gb,b < w.heap.size:=fun b hb=>hx.lt b (hp1.mem_iff.2 (List.mem_append_left _ hb));have hux:∀ b∈u.gb,b∈x.gb:=fun b hb=>hp1.mem_iff.2 (List.mem_append_left _ hb);have huO:u.GOk w:=⟨huG,hn1,hul⟩
 have hu2:=hn1;rw[NT.gb_eq] at hu2;obtain⟨_,hk1,hk2⟩:=List.nodup_append.1 hu2;have hob:∀ b∈u.ob,b∈u.gb:=fun b hb=>by rw[NT.gb_eq];exact List.mem_append_left _ hb
 have hkb:∀ b∈NT.gbs u.ks,b∈u.gb:=fun b hb=>by rw[NT.gb_eq];exact List.mem_append_right _ hb
 have hM:∀ b∈NT.gbs M,b∈g.gb\/b∈NT.gbs u.ks:=fun b hb=>List.mem_append.1 (hpm.mem_iff.1 hb);have hMn:(NT.gbs M).Nodup:=hpm.nodup_iff.2 (List.nodup_append.2 ⟨hgk.nd,hk1,fun a ha b hb e=>hgx a ha (hux a (hkb a (e ▸ hb)))⟩)
 have hMo:∀ b∈NT.gbs M,b ∉ u.ob:=fun b hb h=>by
  rcases hM b hb with h1 | h1
  ·exact hgx b h1 (hux b (hob b h))
  ·exact hk2 b h b h1 rfl
 have hMl:∀ b∈NT.gbs M,b < w.heap.size:=fun b hb=>by
  rcases hM b hb with h1 | h1
  ·exact hgk.lt b h1
  ·exact hul b (hkb b h1)
 obtain⟨q1,q2,q3⟩:=huO.reKids (a2:=a2) (c2:=c2) (ks:=M) hg hrow (fun k hk=>by
  rcases hmem k hk with rfl | h
  ·exact hgk.grew hg
  ·exact (huO.kid h).grew hg) hMn (fun b hb=>by
  refine⟨fun e=>hMo b hb (e ▸ List.mem_cons_self ..),fun h=>hMo b hb (List.mem_cons_of_mem _ (List.mem_append_left _ (mem_ownL.2 h))),fun h=>?_⟩;have h1:=(hrow.lt b h).1;have h2:=hMl b hb
  omega)
 have hpc:(u.reKids a2 c2 M).pc=u.pc:=rfl;have hO:∀ j,j=u.pc->j∈u.gb\/w.heap.size<=j\/j∈g.gb:=fun j hj=>.inl (by rw[hj];exact hob _ (List.mem_cons_self ..))
 have hb:∀ b∈(u.reKids a2 c2 M).gb,b∈u.gb\/w.heap.size<=b\/b∈g.gb:=fun b hb=>by
  rcases q3 b hb with h | h | h
  ·exact .inl (hob b h)
  ·exact .inr (.inl h)
  ·rcases hM b h with h | h
   ·exact .inr (.inr h)
   ·exact .inl (hkb b h)
 have hput:=NT.GOk.put q2 (F:=g.gb) hx hat (by rw[hu];exact hO) (by rw[hu];exact hpc) q1 (by rw[hu];exact hb) hgx;obtain⟨p1,p2⟩:=hp2 _ hpc;refine⟨rfl,NT.setAt (u.reKids a2 c2 M) x up,hput,p2,?_,q2,fun b hb'=>?_⟩
 ·show _=_
  rw[NT.setAt_er,NT.reKids_er]
 ·rcases List.mem_append.1 (p1.mem_iff.1 hb') with h | h
  ·rcases hb b h with h | h | h
   ·exact .inl (hux b h)
   ·exact .inr (.inr h)
   ·exact .inr (.inl h)
  ·exact .inl (hp1.mem_iff.2 (List.mem_append_right _ h))
theorem NT.GOwn.kid_row{w:World}{x:NT}(h:x.GOwn w):(x.ka=none/\x.kc=0/\x.ks=[])\/∃ b,x.ka=some ⟨b,0,none⟩:=by
 rcases h.kids.2 with ⟨hv,h0⟩ | ⟨g,cap,cur,hv,_⟩
 ·have hv2:Value.slice x.ka x.ks.length x.kc=.slice none 0 0:=hv;injection hv2 with e1 e2 e3
  exact .inl ⟨e1,e3,List.eq_nil_of_length_eq_zero e2⟩
 ·have hv2:Value.slice x.ka x.ks.length x.kc=_:=hv;injection hv2 with e1 e2 e3
  exact .inr ⟨g,e1⟩
theorem ptr_row1{w:World}{t:TypeId}(k:NT):RowIn (w.alloc (.cells #[ptrV k] t)) w.heap.size (w.heap.size+1) (some ⟨w.heap.size,0,none⟩) [k].length 1 1 (fun i j=>([ptrV ([k].getD i default)]:List Value).getD j undef) :=
 zcI zQ1 (by unfold maxLen;decide) (fun i hi j hj=>by
  obtain rfl:j=0:=by omega
  obtain rfl:i=0:=by have:i < 1:=hi;omega
  rfl)
theorem put12_any(x u g:NT){t:T}(pa:Option Addr)(pc:Nat)(up:List Int)(i:Nat)(w:World)(hx:x.GOk w)(hp:IntsIn w 0 w.heap.size pa pc (up++[(i:Int)]))(hat:x.er.at up=some t)(hu:x.sub up=u)(hi:i<=u.ks.length)(hgk:g.GOk w)(hgx:∀ b∈g.gb,b ∉ x.gb)(hl:up.length+1<=1048576)(hkl:u.ks.length<=1048576) :
  Calls Tryz.prog 55 #[.pointer (some ⟨x.pc,0,none⟩),.slice pa (up.length+1) pc,.pointer (some ⟨g.pc,0,none⟩)] w (PutPost x u g up i w):=by
 have hpu:IntsIn w 0 w.heap.size pa pc up:=by
  have:=IntsIn.take hp (k:=up.length) (by simp);rw[List.take_left' rfl] at this;exact this
 have FT:=zQ0 (za8 x pa pc up w hx.g hpu hat (by omega));rw[hu] at FT;have hcap:up.length+1<=pc:=by have:=hp.1.2.1;rw[List.length_append] at this;exact this
 obtain⟨pb,po,rfl,_,hpb,hpcell⟩:=hp.at (j:=up.length) (by simp);have hpi:(up++[(i:Int)]).getD up.length 0=(i:Int):=by simp[List.getD]
 rw[hpi] at hpcell;have huG:=hx.g.sub hat;rw[hu] at huG;have HPost:=zQ0 (fun(w2:World) (a2:Option Addr) (c2:Nat) (hg:Grew w w2) (hrow:w2.ownsRow w.heap.size 55 1 (.slice a2 (u.ks.take i++g::u.ks.drop i).length c2) (u.ks.take i++g::u.ks.drop i).length ((u.ks.take i++g::u.ks.drop i).map ptrV))=>put_post hx hat hu hgk hgx hg hrow);have HROW:=zQ0 huG.own.row;have KC:=zQ0 (fun(w':World) (g:Grew w w')=>((hx.grew g).g.sub hat));rw[hu] at KC;obtain⟨c0,c1,c2⟩:=huG.own.at;have hkr:=huG.own.kid_row;have hkcap:u.ks.length<=u.kc/\u.kc<=maxLen:=⟨HROW.out.1.2.1,HROW.out.1.2.2⟩
 unfold maxLen at hkcap;have hw1:IntKind.i64.wrap (((up.length+1:Nat):Int) - 1)=(up.length:Int):=by rw[IntKind.wrap_i64];omega
 have hlen1:(u.ks.take i).length=i:=by rw[List.length_take];omega
 have hlen2:(u.ks.drop i).length=u.ks.length - i:=List.length_drop;have HT1:=zQ0 hlen1;have HT2:=zQ0 hlen2;have HI:=zQ0 hi
 have hPP:∀(v2:Value) (w3:World) (L M:List NT),L=u.ks.take i++[g]->M=u.ks.drop i->Grew w w3->zad (fun _=>False) w.heap.size w3 v2 (L++M)->PutPost x u g up i w (.returned (.tuple #[])) (w3.setCell ⟨u.pc,2,none⟩ v2):=by
  intro v2 w3 L M hL hM hg3 hB;subst hL hM;have h1:=hB.1;rw[zbd,List.append_assoc,List.singleton_append] at h1;obtain⟨a2,c2,rfl⟩:=zb9 h1;exact HPost.out w3 a2 c2 hg3 h1
 have HPP:=zQ0 hPP;clear hPP HPost;clear hx hp hat hu hpu hpi huG hlen1 hlen2 hgk hgx;have hgp:ptrV g=.pointer (some ⟨g.pc,0,none⟩):=rfl;have q3:(up.length:Int)<=pc:=by omega
 rcases hkr with ⟨hka,hkc,hks⟩ | ⟨kb,hka⟩
 ·obtain rfl:i=0:=by rw[hks] at hi;simpa using hi
  rw[hka,hkc,hks] at c2;have HKA:=zQ0 (show u.ka=none/\u.kc=0/\u.ks=[] from ⟨hka,hkc,hks⟩);clear hka hkc hks hkcap HI HT1 HT2 HROW hi;have HT1:Hid (([]:List NT).length=0):=zQ0 rfl;have HT2:Hid (([]:List NT).length=0):=zQ0 rfl
  go_enter Tryz.func55,Tryz.ntmps55
  go_wp2_with fail
  refine FT.out.mono ?_;rintro e w1 ⟨rfl,rfl⟩;clear FT
  go_upto_region 4 with (at_builtin;go_loud (refine zdq (S:=fun _=>False) (B:=w1.heap.size) rfl (.tmp 22) (.tmp 28) rfl (some 29) rfl (.slice none 0 0) [] ([]) rfl Built.nil none 0 0 w1.heap.size rfl zcJ (by have:=HT1.out;simp only[List.length_nil] at *;omega) zQ1 ?_);intro v1 w2 hB1 hk1)
  rw[List.nil_append] at hB1;have g12:Grew w1 w2:=(Grew.refl _).own hk1 (fun j hj=>absurd hj zb5);have HB1:=zQ0 hB1;have HG12:=zQ0 g12;obtain⟨n1,a1,cc1,rfl⟩:=zcS hB1.1;clear hB1 hk1 g12
  go_upto_region 5 with (at_builtin;go_loud (refine zdq (S:=fun _=>False) (B:=w1.heap.size) rfl (.tmp 30) (.tmp 32) rfl (some 33) rfl (.slice a1 n1 cc1) (([]:List NT)) [g] rfl (HB1.out.grew (Grew.alloc1 _ _)) (some ⟨w2.heap.size,0,none⟩) 1 w2.heap.size (w2.heap.size+1) rfl (ptr_row1 g) (by have:=HT1.out;simp only[List.length_singleton,List.length_nil] at *;omega) (Nat.le_trans HG12.out.size (Grew.alloc1 _ _).size) ?_);intro v2 w3 hB2 hk2)
  have g13:Grew w1 w3:=(HG12.out.alloc _).own hk2 (fun j hj=>(HB1.out.lt j hj).1);have d2:=(KC.out w3 g13).own.at.2.2;have HB2:=zQ0 hB2;have HG13:=zQ0 g13;obtain⟨n2,a2,cc2,rfl⟩:=zcS hB2.1;rw[HKA.out.1,HKA.out.2.1,HKA.out.2.2] at d2;clear hB2 hk2 g13
  go_wp2_with (at_builtin;go_loud (refine zdq (S:=fun _=>False) (B:=w1.heap.size) rfl (.tmp 35) (.tmp 41) rfl (some 42) rfl (.slice a2 n2 cc2) ([]++[g]) ([]) rfl HB2.out none 0 0 w3.heap.size rfl zcJ (by have:=HT1.out;have:=HT2.out;simp only[List.length_append,List.length_singleton,List.length_nil] at *;omega) HG13.out.size ?_);intro v3 w4 hB3 hk3;have hg4:Grew w1 w4:=HG13.out.own hk3 (fun j hj=>(HB2.out.lt j hj).1);obtain⟨f1,f2⟩:=(KC.out w4 hg4).own.there 2 (by decide);simp only[Nat.zero_add] at f1 f2;have d3:=(KC.out w4 hg4).own.at.2.2;obtain⟨n3,a3,cc3,rfl⟩:=zcS hB3.1;have HFP:=zQ0 (HPP.out _ w4 _ _ (by rw[List.take_zero]) (by rw[HKA.out.2.2,List.drop_nil]) hg4 hB3))
  go_end0
  exact HFP.out
 ·rw[hka] at c2 HROW;have HKA:=zQ0 hka;clear hka;have q1:(i:Int)<=u.ks.length:=by omega
  have q2:(i:Int)<=u.kc:=by omega
  go_enter Tryz.func55,Tryz.ntmps55
  go_wp2_with fail
  refine FT.out.mono ?_;rintro e w1 ⟨rfl,rfl⟩;clear FT
  go_upto_region 4 with (at_builtin;go_loud (refine zdq (S:=fun _=>False) (B:=w1.heap.size) rfl (.tmp 22) (.tmp 28) rfl (some 29) rfl (.slice none 0 0) [] (u.ks.take i) rfl Built.nil (some ⟨kb,0,none⟩) u.kc 0 w1.heap.size (congrArg (fun n:Nat=>Value.slice (some ⟨kb,0,none⟩) n u.kc) HT1.out.symm) (HROW.out.take i HI.out) (by have:=HT1.out;simp only[List.length_nil] at *;omega) zQ1 ?_);intro v1 w2 hB1 hk1)
  rw[List.nil_append] at hB1;have g12:Grew w1 w2:=(Grew.refl _).own hk1 (fun j hj=>absurd hj zb5);have HB1:=zQ0 hB1;have HG12:=zQ0 g12;obtain⟨n1,a1,cc1,rfl⟩:=zcS hB1.1;clear hB1 hk1 g12
  go_upto_region 5 with (at_builtin;go_loud (refine zdq (S:=fun _=>False) (B:=w1.heap.size) rfl (.tmp 30) (.tmp 32) rfl (some 33) rfl (.slice a1 n1 cc1) (u.ks.take i) [g] rfl (HB1.out.grew (Grew.alloc1 _ _)) (some ⟨w2.heap.size,0,none⟩) 1 w2.heap.size (w2.heap.size+1) rfl (ptr_row1 g) (by have:=HT1.out;simp only[List.length_singleton] at *;omega) (Nat.le_trans HG12.out.size (Grew.alloc1 _ _).size) ?_);intro v2 w3 hB2 hk2)
  have g13:Grew w1 w3:=(HG12.out.alloc _).own hk2 (fun j hj=>(HB1.out.lt j hj).1);have d2:=(KC.out w3 g13).own.at.2.2;rw[HKA.out] at d2;have HB2:=zQ0 hB2;have HG13:=zQ0 g13;obtain⟨n2,a2,cc2,rfl⟩:=zcS hB2.1;have HR2:=zQ0 (zcH HROW.out g13);clear hB2 hk2 g13
  by_cases hend:u.kc<=i
  ·have HD:Hid (u.ks.drop i=[]):=by
    show _=_
    rw[List.drop_eq_nil_iff];omega
   have q4:¬ (i:Int) < u.kc:=by omega
   have HSL:Hid (Value.slice (some ⟨kb,0,none⟩) (u.ks.length - i) 0=Value.slice (some ⟨kb,0,none⟩) ([]:List NT).length 0):=by show _=_;rw[show u.ks.length - i=0 by omega];rfl
   go_wp2_with (at_builtin;go_loud (refine zdq (S:=fun _=>False) (B:=w1.heap.size) rfl (.tmp 35) (.tmp 41) rfl (some 42) rfl (.slice a2 n2 cc2) (u.ks.take i++[g]) ([]) rfl HB2.out (some ⟨kb,0,none⟩) 0 0 w3.heap.size HSL.out ⟨⟨fun e=>(by cases e),Nat.le_refl _,Nat.zero_le _⟩,fun h=>absurd h (Nat.lt_irrefl _)⟩ (by have:=HT1.out;have:=HT2.out;simp only[List.length_append,List.length_singleton,List.length_nil] at *;omega) HG13.out.size ?_);intro v3 w4 hB3 hk3;have hg4:Grew w1 w4:=HG13.out.own hk3 (fun j hj=>(HB2.out.lt j hj).1);obtain⟨f1,f2⟩:=(KC.out w4 hg4).own.there 2 (by decide);simp only[Nat.zero_add] at f1 f2;have d3:=(KC.out w4 hg4).own.at.2.2;obtain⟨n3,a3,cc3,rfl⟩:=zcS hB3.1;have HFP:=zQ0 (HPP.out _ w4 _ _ rfl HD.out.symm hg4 hB3))
   go_end0
   exact HFP.out
  ·have q4:(i:Int) < u.kc:=by omega
   have HCP:Hid (i<=u.kc):=by show _<=_;omega
   have HSL:Hid (Value.slice (some ⟨kb,i,none⟩) (u.ks.length - i) (u.kc - i)=Value.slice (some ⟨kb,0+i,none⟩) (u.ks.drop i).length (u.kc - i)):=by show _=_;rw[HT2.out,Nat.zero_add]
   go_wp2_with (at_builtin;go_loud (refine zdq (S:=fun _=>False) (B:=w1.heap.size) rfl (.tmp 35) (.tmp 41) rfl (some 42) rfl (.slice a2 n2 cc2) (u.ks.take i++[g]) (u.ks.drop i) rfl HB2.out (some ⟨kb,0+i,none⟩) (u.kc - i) 0 w3.heap.size HSL.out (PtrRow.drop HR2.out i HCP.out) (by have:=HT1.out;have:=HT2.out;simp only[List.length_append,List.length_singleton] at *;omega) HG13.out.size ?_);intro v3 w4 hB3 hk3;have hg4:Grew w1 w4:=HG13.out.own hk3 (fun j hj=>(HB2.out.lt j hj).1);obtain⟨f1,f2⟩:=(KC.out w4 hg4).own.there 2 (by decide);simp only[Nat.zero_add] at f1 f2;have d3:=(KC.out w4 hg4).own.at.2.2;obtain⟨n3,a3,cc3,rfl⟩:=zcS hB3.1;have HFP:=zQ0 (HPP.out _ w4 _ _ rfl rfl hg4 hB3))
   go_end0
   exact HFP.out
def DoPost(x:NT)(r:T)(w:World)(e:Ending)(w':World):Prop:=e=.returned (.tuple #[])/\∃ x':NT,x'.GOk w'/\x'.pc=x.pc/\Hid (x'.er=r)/\Keeps (·∈x.gb) w w'
theorem do2_any(x u:NT)(o:OpL){t:T}(up:List Int)(i:Nat)(w:World)(hx:x.GOk w)(ho:o.In w 0 w.heap.size)(hk:o.kind=2)(hp:o.path.l=up++[(i:Int)])(hat:x.er.at up=some t)(hu:x.sub up=u)(hi:i < u.ks.length)(hl:up.length+1<=1048576)(hkl:u.ks.length<=1048576) :
  Calls Tryz.prog 22 #[.pointer (some ⟨x.pc,0,none⟩),o.val] w (DoPost x (T.setAt (u.er.kids ((u.ks.eraseIdx i).map NT.er)) x.er up) w):=by
 have hub:u.pc∈x.gb:=by
  obtain⟨rest,hp1,_⟩:=NT.gb_split hat;rw[hu] at hp1;exact hp1.mem_iff.2 (List.mem_append_left _ (by rw[NT.gb_eq];exact List.mem_append_left _ (List.mem_cons_self ..)))
 have TK:=zQ0 (fun w1 (g:Grew w w1)=>take12_any x u o.path.a o.path.c up i w1 (hx.grew g) (by have:=((ho.grew g zQ1).mono zQ1 g.size).1.1;rw[hp] at this;exact this) hat hu hi hl hkl);have HUB:=zQ0 hub;have hpl:o.path.l.length=up.length+1:=by rw[hp,List.length_append];rfl
 have HKI:=zQ0 hk;have HPL:=zQ0 hpl;clear hx ho hp hat hu hi hub hk hpl;unfold OpL.val
 go_enter Tryz.func22,Tryz.ntmps22
 go_upto_region 1 with fail
 generalize hW:w.alloc _=w1;obtain⟨g1,rO,_,z1⟩:=zas w o.cells _ w1 hW;clear hW;obtain⟨ov,hov⟩:∃ v,o.val=v:=⟨_,rfl⟩
 unfold OpL.val at hov;rw[hov];clear hov;have k0:=zcp rO (j:=0) rfl;have k1:=zcp rO (j:=1) rfl;rw[HKI.out] at k0;rw[HPL.out] at k1;have CT:=TK.out w1 g1;have G1:=zQ0 g1;clear rO z1 g1 TK;go_wp2_with fail
 refine CT.mono ?_;rintro e w2 ⟨rfl,x',q1,_,_,q4,q5,q6,_⟩;have HF:Hid (DoPost x (T.setAt (u.er.kids ((u.ks.eraseIdx i).map NT.er)) x.er up) w (.returned (.tuple #[])) w2):=⟨rfl,x',q1,q4,q5,(G1.out.keeps _).trans (q6.wider fun j _ e=>e ▸ HUB.out)⟩
 clear q1 q4 q5 q6 CT k0 k1;go_wp2_with fail
 go_end0
 exact HF.out
theorem do5_any(x u:NT)(o:OpL){t r gv:T}(B:Nat)(up vp:List Int)(i j:Nat)(w:World)(hx:x.GOk w)(hB:B<=w.heap.size)(ho:o.In w 0 B)(hxB:∀ b∈x.gb,B<=b)(hk:o.kind=5)(hp:o.path.l=up++[(i:Int)])(hat:x.er.at up=some t)(hu:x.sub up=u)(hi:i < u.ks.length)(hl:up.length+1<=1048576)(hkl:u.ks.length<=1048576)(hr:T.setAt (u.er.kids ((u.ks.eraseIdx i).map NT.er)) x.er up=r)(hd:o.dest.l=vp++[(j:Int)])(hat2:r.at vp=some gv)(hj:j<=gv.ks.length)(hl2:vp.length+1<=1048576)(hkl2:gv.ks.length<=1048576) :
  Calls Tryz.prog 22 #[.pointer (some ⟨x.pc,0,none⟩),o.val] w (DoPost x (T.setAt (gv.kids (gv.ks.take j++(u.ks.getD i default).er::gv.ks.drop j)) r vp) w):=by
 have hsp:u.pc∈x.gb/\∀ b∈u.gb,b∈x.gb:=by
  obtain⟨rest,hp1,_⟩:=NT.gb_split hat;rw[hu] at hp1;exact⟨hp1.mem_iff.2 (List.mem_append_left _ (by rw[NT.gb_eq];exact List.mem_append_left _ (List.mem_cons_self ..))),fun b hb=>hp1.mem_iff.2 (List.mem_append_left _ hb)⟩
 have hz:u.pc < w.heap.size:=hx.lt _ hsp.1;have hzB:=hxB _ hsp.1;have TK:=zQ0 (fun w1 (g:Grew w w1)=>take12_any x u o.path.a o.path.c up i w1 (hx.grew g) (by have:=((ho.grew g hB).mono zQ1 (Nat.le_trans hB g.size)).1.1;rw[hp] at this;exact this) hat hu hi hl hkl)
 have PT:=zQ0 (fun w1 w2 (g:Grew w w1) (x':NT) (q1:x'.GOk w2) (q2:(u.ks.getD i default).GOk w2) (q3:∀ b∈(u.ks.getD i default).gb,b ∉ x'.gb) (q5:x'.er=r) (q6:Keeps (·=u.pc) w1 w2)=>(by
  have hI:IntsIn w2 0 w2.heap.size o.dest.a o.dest.c (vp++[(j:Int)]):=by
   rw[<- hd];exact ((IntsIn.agree (ho.grew g hB).1.2 (q6.agree (Nat.le_trans hB g.size) (fun k _ h2 e=>by omega))).mono zQ1 (Nat.le_trans (Nat.le_trans hB g.size) q6.size))
  have ha:x'.er.at vp=some gv:=by rw[q5];exact hat2
  have hv:=NT.sub_er ha;have hvl:(x'.sub vp).ks.length=gv.ks.length:=by rw[<- hv,NT.er_ks,List.length_map]
  have hm:((x'.sub vp).ks.take j++u.ks.getD i default::(x'.sub vp).ks.drop j).map NT.er=gv.ks.take j++(u.ks.getD i default).er::gv.ks.drop j:=by
   rw[<- hv,NT.er_ks,List.map_append,List.map_cons,List.map_take,List.map_drop]
  refine Calls.mono (put12_any x' (x'.sub vp) (u.ks.getD i default) o.dest.a o.dest.c vp j w2 q1 hI ha rfl (by omega) q2 q3 hl2 (by omega)) ?_;rintro e w3 ⟨rfl,x2,p1,p2,p3,p4,_⟩
  have hsb:(x'.sub vp).pc∈x'.gb:=by
   obtain⟨rest,hp1,_⟩:=NT.gb_split ha;exact hp1.mem_iff.2 (List.mem_append_left _ (by rw[NT.gb_eq];exact List.mem_append_left _ (List.mem_cons_self ..)))
  exact⟨rfl,x2,p1,p2,by rw[p3.out,hm,hv,q5],p4,hsb⟩:Calls Tryz.prog 55 #[.pointer (some ⟨x'.pc,0,none⟩),.slice o.dest.a (vp.length+1) o.dest.c,.pointer (some ⟨(u.ks.getD i default).pc,0,none⟩)] w2 fun e w3=>e=.returned (.tuple #[])/\∃ x2:NT,x2.GOk w3/\x2.pc=x'.pc/\x2.er=T.setAt (gv.kids (gv.ks.take j++(u.ks.getD i default).er::gv.ks.drop j)) r vp/\Keeps (·=(x'.sub vp).pc) w2 w3/\(x'.sub vp).pc∈x'.gb))
 have HUB:=zQ0 hsp.1;have HKI:=zQ0 hk;have HPL:=zQ0 (show o.path.l.length=up.length+1 by rw[hp,List.length_append];rfl);have HPD:=zQ0 (show o.dest.l.length=vp.length+1 by rw[hd,List.length_append];rfl);have HRR:=zQ0 hr;have HZ:=zQ0 hz;clear hx ho hxB hB hp hat hu hi hsp hk hr hd hat2 hj hz hzB;unfold OpL.val
 go_enter Tryz.func22,Tryz.ntmps22
 go_upto_region 1 with fail
 generalize hW:w.alloc _=w1;obtain⟨g1,rO,_,z1⟩:=zas w o.cells _ w1 hW;clear hW;obtain⟨ov,hov⟩:∃ v,o.val=v:=⟨_,rfl⟩
 unfold OpL.val at hov;rw[hov];clear hov;have k0:=zcp rO (j:=0) rfl;have k1:=zcp rO (j:=1) rfl;have k2:=zcp rO (j:=2) rfl;rw[HKI.out] at k0;rw[HPL.out] at k1;rw[HPD.out] at k2;have HK2:=zQ0 (fun(w2:World) (q:Keeps (·=u.pc) w1 w2)=>(q.cell (p:=⟨w.heap.size,2,none⟩) (by show w.heap.size < _;omega) (by have:=HZ.out;show ¬ w.heap.size=u.pc;omega)).trans k2);have CT:=TK.out w1 g1;have G1:=zQ0 g1;clear rO z1 g1 TK k2;go_wp2_with fail
 refine CT.mono ?_;rintro e w2 ⟨rfl,x',q1,q2,q3,q4,q5,q6,q7⟩;have k2:=HK2.out w2 q6;have q5':=q5.out;rw[HRR.out] at q5';have CP:=PT.out w1 w2 G1.out x' q1 q2 q3 q5' q6;rw[q4] at CP
 have HX':=zQ0 (fun(w3:World) (k:Keeps (·=(x'.sub vp).pc) w2 w3) (hm:(x'.sub vp).pc∈x'.gb)=>(by
  have h1:Keeps (·∈x.gb) w w2:=(G1.out.keeps _).trans (q6.wider fun j _ e=>e ▸ HUB.out);have h2:Moves (·∈x.gb) w (·∈x'.gb) w2:=⟨h1,fun b hb=>(q7 b hb).imp id (fun h=>Nat.le_trans G1.out.size h)⟩
  exact (h2.trans (O'':=(·∈x'.gb)) ⟨k.wider fun j _ e=>by rw[e];exact hm,fun _ h=>.inl h⟩).1:Keeps (·∈x.gb) w w3))
 clear q1 q2 q3 q5 q5' q6 CT k0 k1 PT HK2;generalize u.ks.getD i default=kd at *;go_wp2_with fail
 refine CP.mono ?_;rintro e w3 ⟨rfl,x2,p1,p2,p3,p4,p5⟩;have HF:Hid (DoPost x (T.setAt (gv.kids (gv.ks.take j++kd.er::gv.ks.drop j)) r vp) w (.returned (.tuple #[])) w3):=⟨rfl,x2,p1,p2,p3,HX'.out w3 p4 p5⟩
 clear p1 p2 p3 p4 p5 CP k2 q4 HX';go_wp2_with fail
 go_end0
 exact HF.out
end Go.Proofs.YtccobobnmpafbaaGreatDoor
