/- A GHOST IS PARTED: its last Kids go to a new one. -/
import Derived.Test.YtccobobnmpafbaaGreatDoorK44
import Derived.Test.YtccobobnmpafbaaGreatDoorK41
import Derived.Test.YtccobobnmpafbaaGreatDoorK40
import Derived.Test.YtccobobnmpafbaaGreatDoorK02
import Derived.Deep.MidRow
namespace Go.Proofs.YtccobobnmpafbaaGreatDoor
open Go Go.RowKit
theorem NT.gbs_part(l:List NT)(q:Nat):NT.gbs l=NT.gbs (l.take q)++NT.gbs (l.drop q):=by rw[<- NT.gbs_app,List.take_append_drop]
theorem NT.GOk.splitKids{x k m:NT}{t:T}{p:List Int}{q:Nat}{w w3 w5:World}{v3 v5:Value}(hx:x.GOk w)(hat:x.er.at p=some t)(hk:x.sub p=k)(hm:m.GOk w)(_hmk:m.ks=[])(hd:∀ j∈m.gb,j ∉ x.gb)(hB3:zad (fun _=>False) w.heap.size w3 v3 (k.ks.drop q))(g3:Grew w w3)(hB5:zad (fun _=>False) (w3.setCell ⟨m.pc,2,none⟩ v3).heap.size w5 v5 (k.ks.take q))(g5:Grew (w3.setCell ⟨m.pc,2,none⟩ v3) w5) :
  ∃ x2 m2:NT,x2.GOk (w5.setCell ⟨k.pc,2,none⟩ v5)/\m2.GOk (w5.setCell ⟨k.pc,2,none⟩ v5)/\(∀ j∈m2.gb,j ∉ x2.gb)/\x2.pc=x.pc/\m2.pc=m.pc/\x2.er=T.setAt (.mk false [] k.ts (k.er.ks.take q)) x.er p/\m2.er=.mk false [] m.ts (k.er.ks.drop q)/\Keeps (fun j=>j∈x.gb\/j∈m.gb) w (w5.setCell ⟨k.pc,2,none⟩ v5)/\(∀ j∈x2.gb,j∈x.gb\/w.heap.size<=j)/\(∀ j∈m2.gb,j∈x.gb\/j∈m.gb\/w.heap.size<=j):=by
 obtain⟨hkO,hkx⟩:=hx.sub_ok hat;obtain⟨rest,hp1,hp2⟩:=NT.gb_split hat;rw[hk] at hkO hkx hp1 hp2;have hr3:=hB3.1;rw[zbd] at hr3;have hr5:=hB5.1;rw[zbd] at hr5;obtain⟨a3,c3,rfl⟩:=zb9 hr3;obtain⟨a5,c5,rfl⟩:=zb9 hr5;have hmp:m.pc∈m.gb:=by rw[NT.gb_eq];exact List.mem_append_left _ (List.mem_cons_self ..)
 have hkp:k.pc∈k.gb:=by rw[NT.gb_eq];exact List.mem_append_left _ (List.mem_cons_self ..)
 have hml:=hm.lt _ hmp;have hkl:=hkO.lt _ hkp;have hmk2:m.pc≠k.pc:=fun e=>hd _ hmp (hkx _ (e ▸ hkp));have k3:Keeps (·=m.pc) w (w3.setCell ⟨m.pc,2,none⟩ (.slice a3 (k.ks.drop q).length c3)):=(g3.keeps _).trans ((Keeps.refl (·=m.pc) w3).own _ _);have hx4:=hx.keeps k3 (fun b hb e=>hd _ hmp (e ▸ hb));have hk4:=hkO.keeps k3 (fun b hb e=>hd _ hmp (e ▸ hkx b hb));have s3:=g3.size;have s4:(w3.setCell ⟨m.pc,2,none⟩ (.slice a3 (k.ks.drop q).length c3)).heap.size=w3.heap.size:=World.size_setCell ..;have k5:Keeps (·=k.pc) (w3.setCell ⟨m.pc,2,none⟩ (.slice a3 (k.ks.drop q).length c3)) (w5.setCell ⟨k.pc,2,none⟩ (.slice a5 (k.ks.take q).length c5)):=(g5.keeps _).trans ((Keeps.refl (·=k.pc) w5).own _ _);have s5:=g5.size;have s6:(w5.setCell ⟨k.pc,2,none⟩ (.slice a5 (k.ks.take q).length c5)).heap.size=w5.heap.size:=World.size_setCell ..;have hmem:∀ z∈k.ks.take q,z∈k.ks:=fun z hz=>List.mem_of_mem_take hz;have hmem2:∀ z∈k.ks.drop q,z∈k.ks:=fun z hz=>List.mem_of_mem_drop hz;have hkn:=hkO.nd;rw[NT.gb_eq,NT.gbs_part k.ks q] at hkn;obtain⟨hn1,hn2,hn3⟩:=List.nodup_append.1 hkn;obtain⟨hn4,hn5,hn6⟩:=List.nodup_append.1 hn2;have htg:∀ j∈NT.gbs (k.ks.take q),j∈k.gb:=fun j hj=>by rw[NT.gb_eq,NT.gbs_part k.ks q];exact List.mem_append_right _ (List.mem_append_left _ hj)
 have hdg:∀ j∈NT.gbs (k.ks.drop q),j∈k.gb:=fun j hj=>by rw[NT.gb_eq,NT.gbs_part k.ks q];exact List.mem_append_right _ (List.mem_append_right _ hj)
 have hog:∀ j∈k.ob,j∈k.gb:=fun j hj=>by rw[NT.gb_eq];exact List.mem_append_left _ hj
 have hmv:Moves (zb4 k.kidsV) (w3.setCell ⟨m.pc,2,none⟩ (.slice a3 (k.ks.drop q).length c3)) (zb4 (.slice a5 (k.ks.take q).length c5)) w5:=⟨g5.keeps _,fun j hj=>.inr (hr5.lt j hj).1⟩
 obtain⟨q1,q2,q3⟩:=hk4.newKids (L:=k.ks.take q) (fun z hz=>hk4.kid (hmem z hz)) hn4 (fun j hj hjo=>hn3 j hjo j (List.mem_append_left _ hj) rfl) ⟨by rw[zbd];exact zca hr5 (Nat.zero_le _),fun _ _ _ _=>trivial⟩ hmv;obtain⟨p1,p2⟩:=hp2 (k.toKids a5 c5 (k.ks.take q)) rfl
 have hput:=NT.GOk.put k5 (F:=[]) hx4 hat (by rw[hk];exact fun j hj=>.inl (by rw[show j=k.pc from hj];exact hkp)) (by rw[hk];rfl) q1 (by
  rw[hk];intro j hj
  rcases q3 j hj with h | h | h
  ·exact .inl h
  ·exact .inl (htg j h)
  ·exact .inr (.inl h)) (fun j hj=>by cases hj)
 have ho3:∀ j,zb4 (.slice a3 (k.ks.drop q).length c3) j->w.heap.size<=j/\j < w3.heap.size:=fun j hj=>hr3.lt j hj;have ho5:∀ j,zb4 (.slice a5 (k.ks.take q).length c5) j->w3.heap.size<=j:=fun j hj=>by have:=(hr5.lt j hj).1;omega
 obtain⟨d1,d2,d3⟩:=hm.ob_nd;have hown:=hm.g.own;have hrunes3:∀ j,zb4 m.runesV j->j≠m.pc:=d1;have hmr:∀ j,zb4 m.runesV j->j∈m.gb:=fun j hj=>by rw[NT.gb_eq];exact List.mem_append_left _ (List.mem_cons_of_mem _ (List.mem_append_left _ (mem_ownL.2 hj)))
 have ht4:(w3.setCell ⟨m.pc,2,none⟩ (.slice a3 (k.ks.drop q).length c3)).there m.pc 0 3:=zdy (zc9 hown.there g3 hml) _ _
 have hc4:(w3.setCell ⟨m.pc,2,none⟩ (.slice a3 (k.ks.drop q).length c3)).rangeAt m.pc 0 (m.toKids a3 c3 (k.ks.drop q)).gcells:=by
  have hc3:=zcq hown.cells g3 hml;have ht3:=zc9 hown.there g3 hml 2 (by decide);intro j v hj
  match j,hj with
  | 0,hj=>rw[World.cell?_setCell_other _ _ _ _ (by simp)];exact hc3 0 v hj
  | 1,hj=>rw[World.cell?_setCell_other _ _ _ _ (by simp)];exact hc3 1 v hj
  | 2,hj =>
   have hv:v=.slice a3 (k.ks.drop q).length c3:=by
    have:(some (.slice a3 (k.ks.drop q).length c3):Option Value)=some v:=hj;injection this with e;exact e.symm
   subst hv;exact World.cell?_setCell_same' _ _ _ (by simpa using ht3.1)
 have hm6:(m.toKids a3 c3 (k.ks.drop q)).GOwn (w5.setCell ⟨k.pc,2,none⟩ (.slice a5 (k.ks.take q).length c5)):=by
  have hml4:m.pc < (w3.setCell ⟨m.pc,2,none⟩ (.slice a3 (k.ks.drop q).length c3)).heap.size:=by omega
  refine⟨zcr hc4 k5 hml4 hmk2,Go.Proofs.YtccobobnmpafbaaGreatDoor.there_keeps ht4 k5 hml4 hmk2,?_,?_,hown.hts,hown.lf,hown.ps⟩
  ·exact zcd (zcd hown.runes k3 (fun j hj=>d1 j hj)) k5 (fun j hj e=>hd j (hmr j hj) (hkx j (by rw[show j=k.pc from e];exact hkp)))
  ·refine zcd (zcd (zca hr3 (Nat.zero_le _)) ((Keeps.refl (·=m.pc) w3).own _ _) (fun j hj e=>?_)) k5 (fun j hj e=>?_)
   ·have h1:=(ho3 j hj).1;have e:j=m.pc:=e;omega
   ·have h1:=(ho3 j hj).1;have e:j=k.pc:=e;omega
 have hob2:(m.toKids a3 c3 (k.ks.drop q)).ob=m.pc::(ownL m.runesV++ownL (.slice a3 (k.ks.drop q).length c3)):=by
  unfold NT.ob NT.runesV NT.kidsV NT.toKids;simp only[NT.pc_mk,NT.ta_mk,NT.tc_mk,NT.ts_mk,NT.ka_mk,NT.kc_mk,NT.ks_mk]
 have hol:∀ j∈(m.toKids a3 c3 (k.ks.drop q)).ob,j∈m.gb\/(w.heap.size<=j/\j < w3.heap.size):=fun j hj=>by
  rw[hob2] at hj
  rcases List.mem_cons.1 hj with h | h
  ·exact .inl (h ▸ hmp)
  ·rcases List.mem_append.1 h with h | h
   ·exact .inl (hmr j (mem_ownL.1 h))
   ·exact .inr (ho3 j (mem_ownL.1 h))
 have hM:(m.toKids a3 c3 (k.ks.drop q)).GOk (w5.setCell ⟨k.pc,2,none⟩ (.slice a5 (k.ks.take q).length c5)):=by
  refine NT.GOk.make hm6 (fun z hz=>?_) hn5 ?_ (fun j hj hjg=>?_) (fun j hj=>?_) (fun j hj=>?_)
  ·have hz:z∈k.ks.drop q:=hz;have hzg:∀ j∈z.gb,j∈NT.gbs (k.ks.drop q):=fun j hj=>NT.mem_gbs hz hj;exact ((hk4.kid (hmem2 z hz)).keeps k5 (fun j hj e=>hn3 k.pc (List.mem_cons_self ..) j (List.mem_append_right _ (hzg j hj)) (show j=k.pc from e).symm)).g
  ·rw[hob2];refine List.nodup_cons.2 ⟨fun h=>?_,List.nodup_append.2 ⟨zb3 _,zb3 _,fun i hi j hj e=>?_⟩⟩
   ·rcases List.mem_append.1 h with h | h
    ·exact d1 _ (mem_ownL.1 h) rfl
    ·have:=(ho3 _ (mem_ownL.1 h)).1;omega
   ·have h1:=hm.lt i (hmr i (mem_ownL.1 hi));have h2:=(ho3 j (mem_ownL.1 hj)).1;omega
  ·have hjg:j∈NT.gbs (k.ks.drop q):=hjg
   rcases hol j hj with h | h
   ·exact hd j h (hkx j (hdg j hjg))
   ·have:=hkO.lt j (hdg j hjg);omega
  ·rw[s6]
   rcases hol j hj with h | h
   ·have:=hm.lt j h;omega
   ·omega
  ·have hj:j∈NT.gbs (k.ks.drop q):=hj;rw[s6];have:=hkO.lt j (hdg j hj);omega
 have hsub:∀ j∈(NT.setAt (k.toKids a5 c5 (k.ks.take q)) x p).gb,j∈x.gb\/w.heap.size<=j:=fun j hj=>by
  rcases List.mem_append.1 (p1.mem_iff.1 hj) with h | h
  ·rcases q3 j h with h | h | h
   ·exact .inl (hkx j h)
   ·exact .inl (hkx j (htg j h))
   ·exact .inr (by omega)
  ·exact .inl (hp1.mem_iff.2 (List.mem_append_right _ h))
 have hobk:(k.toKids a5 c5 (k.ks.take q)).ob=k.pc::(ownL k.runesV++ownL (.slice a5 (k.ks.take q).length c5)):=by
  unfold NT.ob NT.runesV NT.kidsV NT.toKids;simp only[NT.pc_mk,NT.ta_mk,NT.tc_mk,NT.ts_mk,NT.ka_mk,NT.kc_mk,NT.ks_mk]
 obtain⟨_,hrn,hdis⟩:=List.nodup_append.1 (hp1.nodup_iff.1 hx.nd);refine⟨_,_,hput,hM,fun j hj hjx=>?_,p2,rfl,?_,?_,?_,hsub,fun j hj=>?_⟩
 ·-- nothing of the second one lies in the first
  rw[NT.gb_eq] at hj;have hxj:j∈(k.toKids a5 c5 (k.ks.take q)).gb\/j∈rest:=List.mem_append.1 (p1.mem_iff.1 hjx);rw[NT.gb_eq,hobk] at hxj
  have hfirst:j∈k.ob\/w3.heap.size<=j\/j∈NT.gbs (k.ks.take q)\/j∈rest:=by
   rcases hxj with h | h
   ·rcases List.mem_append.1 h with h | h
    ·rcases List.mem_cons.1 h with h | h
     ·exact .inl (h ▸ List.mem_cons_self ..)
     ·rcases List.mem_append.1 h with h | h
      ·exact .inl (List.mem_cons_of_mem _ (List.mem_append_left _ h))
      ·exact .inr (.inl (ho5 j (mem_ownL.1 h)))
    ·exact .inr (.inr (.inl h))
   ·exact .inr (.inr (.inr h))
  rcases List.mem_append.1 hj with h | h
  ·rcases hol j h with h | h
   ·have hjl:=hm.lt j h
    rcases hfirst with h2 | h2 | h2 | h2
    ·exact hd j h (hkx j (hog j h2))
    ·omega
    ·exact hd j h (hkx j (htg j h2))
    ·exact hd j h (hp1.mem_iff.2 (List.mem_append_right _ h2))
   ·rcases hfirst with h2 | h2 | h2 | h2
    ·have:=hkO.lt j (hog j h2);omega
    ·omega
    ·have:=hkO.lt j (htg j h2);omega
    ·have:=hx.lt j (hp1.mem_iff.2 (List.mem_append_right _ h2));omega
  ·have h:j∈NT.gbs (k.ks.drop q):=h
   rcases hfirst with h2 | h2 | h2 | h2
   ·exact hn3 j h2 j (List.mem_append_right _ h) rfl
   ·have:=hkO.lt j (hdg j h);omega
   ·exact hn6 j h2 j h rfl
   ·exact hdis j (hdg j h) j h2 rfl
 ·rw[NT.setAt_er,NT.er_eq (k.toKids a5 c5 (k.ks.take q))]
  show T.setAt (.mk k.lf k.ps k.ts ((k.ks.take q).map NT.er)) _ _=_
  rw[hkO.g.own.lf,hkO.g.own.ps,NT.er_ks,List.map_take]
 ·rw[NT.er_eq (m.toKids a3 c3 (k.ks.drop q))]
  show T.mk m.lf m.ps m.ts ((k.ks.drop q).map NT.er)=_
  rw[hown.lf,hown.ps,NT.er_ks,List.map_drop]
 ·exact (k3.wider fun j _ e=>.inr (by rw[show j=m.pc from e];exact hmp)).trans (k5.wider fun j _ e=>.inl (hkx j (by rw[show j=k.pc from e];exact hkp)))
 ·rw[NT.gb_eq] at hj
  rcases List.mem_append.1 hj with h | h
  ·rcases hol j h with h | h
   ·exact .inr (.inl h)
   ·exact .inr (.inr h.1)
  ·exact .inl (hkx j (hdg j h))
def Parted(x _k m:NT)(p:List Int)(first second:T)(w w':World):Prop :=
 ∃ x2 m2:NT,x2.GOk w'/\m2.GOk w'/\(∀ j∈m2.gb,j ∉ x2.gb)/\x2.pc=x.pc/\m2.pc=m.pc/\x2.er=T.setAt first x.er p/\m2.er=second/\Keeps (fun j=>j∈x.gb\/j∈m.gb) w w'/\(∀ j∈x2.gb,j∈x.gb\/w.heap.size<=j)/\w.heap.size<=w'.heap.size
theorem Parted.from{x k m:NT}{p:List Int}{f s:T}{w w1 w':World}(h:Parted x k m p f s w1 w')(g:Grew w w1):Parted x k m p f s w w':=by
 obtain⟨x2,m2,h1,h2,h3,h4,h5,h6,h7,h8,h9,h10⟩:=h;have:=g.size;exact⟨x2,m2,h1,h2,h3,h4,h5,h6,h7,(g.keeps _).trans h8,fun j hj=>(h9 j hj).imp id (fun h=>by omega),by omega⟩
theorem NT.GOk.partKids{x k m:NT}{t:T}{p:List Int}{q:Nat}{w w3 w5:World}{v3 v5:Value}(hx:x.GOk w)(hat:x.er.at p=some t)(hk:x.sub p=k)(hm:m.GOk w)(hmk:m.ks=[])(hd:∀ j∈m.gb,j ∉ x.gb)(hB3:zad (fun _=>False) w.heap.size w3 v3 (k.ks.drop q))(g3:Grew w w3)(hB5:zad (fun _=>False) (w3.setCell ⟨m.pc,2,none⟩ v3).heap.size w5 v5 (k.ks.take q))(g5:Grew (w3.setCell ⟨m.pc,2,none⟩ v3) w5) :
  Parted x k m p (.mk false [] k.ts (k.er.ks.take q)) (.mk false [] m.ts (k.er.ks.drop q)) w (w5.setCell ⟨k.pc,2,none⟩ v5):=by
 obtain⟨x2,m2,h1,h2,h3,h4,h5,h6,h7,h8,h9,_⟩:=hx.splitKids hat hk hm hmk hd hB3 g3 hB5 g5;exact⟨x2,m2,h1,h2,h3,h4,h5,h6,h7,h8,h9,h8.size⟩
theorem NT.GOk.partRunes{x k m:NT}{t:T}{p:List Int}{w w3 w5:World}{v3 v5:Value}{L3 L5:List Int}(hx:x.GOk w)(hat:x.er.at p=some t)(hk:x.sub p=k)(hm:m.GOk w)(hmk:m.ks=[])(hd:∀ j∈m.gb,j ∉ x.gb)(hB3:zaa (fun _=>False) w.heap.size w3 v3 L3)(g3:Grew w w3)(hB5:zaa (fun _=>False) (w3.setCell ⟨m.pc,1,none⟩ v3).heap.size w5 v5 L5)(g5:Grew (w3.setCell ⟨m.pc,1,none⟩ v3) w5) :
  Parted x k m p (.mk false [] (k.ts.headD 0::L5) k.er.ks) (.mk false [] (m.ts.headD 0::L3) []) w (w5.setCell ⟨k.pc,1,none⟩ v5):=by
 have hr3:=hB3.1;rw[zbc] at hr3;have hr5:=hB5.1;rw[zbc] at hr5;obtain⟨a3,c3,rfl⟩:=zb9 hr3;obtain⟨q1,q2,q3⟩:=hm.newRunes (L:=L3) ⟨by rw[zbc];exact zca hr3 (Nat.zero_le _),fun _ _ _ _=>trivial⟩ ⟨g3.keeps _,fun j hj=>.inr (hr3.lt j hj).1⟩;have hx4:=hx.keeps q2 (fun b hb hmb=>hd b hmb hb)
 have hd4:∀ j∈(m.toRunes a3 c3 L3).gb,j ∉ x.gb:=fun j hj hjx=>by
  rcases q3 j hj with h | h
  ·exact hd j h hjx
  ·have:=hx.lt j hjx;omega
 obtain⟨x2,b2,h1,h2,h3,h4,h5,h6,h7,h8,h9,h10,h11,h12,h13⟩:=hx4.joinRunesV (L:=L5) hat hk q1 hd4 ⟨by rw[zbc];exact zca hr5 (Nat.zero_le _),fun _ _ _ _=>trivial⟩ ⟨g5.keeps _,fun j hj=>.inr (hr5.lt j hj).1⟩;have s2:=q2.size;have s6:=h6.size;have hown:=(hx.sub_ok hat).1.g.own;rw[hk] at hown;have hb2:=(h1.sub_ok h9).1.g.own;rw[h8] at hb2;refine⟨x2,_,h1,h2,h3,h4,rfl,?_,?_,(q2.wider fun j _ h=>.inr h).trans (h6.wider fun j _ h=>.inl h),fun j hj=>(h7 j hj).imp id (fun h=>by omega),by omega⟩
 ·rw[h5,NT.er_eq b2,h11,h13,hb2.lf,hb2.ps,NT.er_ks]
 ·rw[NT.er_eq (m.toRunes a3 c3 L3)]
  show T.mk m.lf m.ps (m.ts.headD 0::L3) (m.ks.map NT.er)=_
  rw[hm.g.own.lf,hm.g.own.ps,hmk];rfl
theorem split_eq{g v:T}{y z:T}{up:List Int}{i:Nat}(hv:g.at up=some v)(hi:i < v.ks.length) :
  (T.setAt y g (up++[(i:Int)])).at up=some (v.kids (v.ks.take i++y::v.ks.drop (i+1)))/\T.setAt (v.kids ((v.ks.take i++y::v.ks.drop (i+1)).take (i+1)++z::(v.ks.take i++y::v.ks.drop (i+1)).drop (i+1))) (T.setAt y g (up++[(i:Int)])) up=T.setAt (v.kids (v.ks.take i++y::z::v.ks.drop (i+1))) g up:=by
 have hl:(v.ks.take i).length=i:=by rw[List.length_take];omega
 have hks:v.ks=v.ks.take i++v.ks[i]::v.ks.drop (i+1):=by rw[List.getElem_cons_drop,List.take_append_drop]
 rw[T.setAt_kid hv hks hl];refine⟨T.at_setAt hv,?_⟩;rw[T.setAt_setAt hv]
 have h1:(v.ks.take i++y::v.ks.drop (i+1)).take (i+1)=v.ks.take i++[y]:=by
  rw[show v.ks.take i++y::v.ks.drop (i+1)=(v.ks.take i++[y])++v.ks.drop (i+1) by simp,List.take_left' (by simp;omega)]
 have h2:(v.ks.take i++y::v.ks.drop (i+1)).drop (i+1)=v.ks.drop (i+1):=by
  rw[show v.ks.take i++y::v.ks.drop (i+1)=(v.ks.take i++[y])++v.ks.drop (i+1) by simp,List.drop_left' (by simp;omega)]
 rw[h1,h2]
 simp
end Go.Proofs.YtccobobnmpafbaaGreatDoor
namespace Go.Proofs.YtccobobnmpafbaaGreatDoor
open Go
theorem wpAnyN_at{P:Program}{ops:Array Oper}{Q:Exit->Act->World->Prop}{md:Region.Mode}{S:World->Prop}{need:Nat->Bool}{i:Nat}{oi:Oper}{v:Value}{fuel:Nat}{listed:Array Bool}{a:Act}{w:World}(d:Option Tmp)(hi:ops[i]? = some oi)(hd:oi.dst=d)(hs:Region.noSelect ops=true)(hf:Region.free md ops listed i=true)(hn:needsAll need md ops listed i=true)(hr:(Region.ready md ops listed).contains i=true)(hQ:∀ c a w,Q (.panic c) (a.put d v) w->Q (.panic c) a w)(hy:YieldsIf P ops S oi v a)(hS:S w)(h:zdi P md ops Q S need fuel (listed.setIfInBounds i true) (a.put d v) w):zdi P md ops Q S need (fuel+1) listed a w:=by
 subst hd;exact wpAnyN_take hi hs hf hn hr hQ hy hS h
theorem zdj{P:Program}{ops:Array Oper}{Q:Exit->Act->World->Prop}{md:Region.Mode}{S:World->Prop}{need:Nat->Bool}{i:Nat}{oi:Oper}{v:Value}{fuel:Nat}{listed:Array Bool}{a:Act}{w:World}(d:Option Tmp)(hi:ops[i]? = some oi)(hd:oi.dst=d)(hb:(Region.noSelect ops && Region.free md ops listed i && needsAll need md ops listed i && (Region.ready md ops listed).contains i)=true)(hy:YieldsIf P ops S oi v a)(hS:S w)(h:zdi P md ops Q S need fuel (listed.setIfInBounds i true) (a.put d v) w)(hQ:∀ c a w,Q (.panic c) (a.put d v) w->Q (.panic c) a w:=by exact fun _ _ _ h=>h):zdi P md ops Q S need (fuel+1) listed a w:=by
 simp only[Bool.and_eq_true] at hb;exact wpAnyN_at d hi hd hb.1.1.1 hb.1.1.2 hb.1.2 hb.2 hQ hy hS h
theorem za3{P:Program}{T:TypeId}{x:Operand}{o:Oper}{a:Act}{p:Addr}{v:Value}{w:World}{d:TypeDesc}(ho:o.op=.load T x)(hx:a.eval x=.pointer (some p))(hu:P.underlying T=some d)(hd:d.isRow=false)(hc:w.cell? p=some v) :
  (execOp a.eval o).run P w=.ok (.value v) w:=by
 have hagg:(isAgg T).run P w=.ok false w:=by
  unfold isAgg;rw[Sem.run_bind,run_underlying hu w]
  cases d <;> simp_all
 unfold execOp;simp only[ho,hx,Instr.loadAt,Instr.sureAddr,loadVar,Sem.run_bind,Sem.run_pure,Result.andThen_ok,hagg,run_load,hc,Bool.false_eq_true,if_false]
theorem exec_eq{P:Program}{o:Oper}{a:Act}{v v':Value}{w:World}(h:(execOp a.eval o).run P w=.ok (.value v') w)(e:v'=v):(execOp a.eval o).run P w=.ok (.value v) w:=by rw[h,e]
theorem exec_from{P:Program}{T e:TypeId}{o:Oper}{a:Act}{x y:Operand}{ad:Option Addr}{n c q:Nat}{w:World}(ho:o.op=.slice T x (some y) none none)(hx:a.eval x=.slice ad n c)(hy:a.eval y=.int .i64 (q:Int))(hu:P.underlying T=some (.slice e))(hi:(P.info? e).map (·.size)=some 1)(hq:q<=n)(_hc:n<=c) :
  (execOp a.eval o).run P w=.ok (.value (.slice (if c=q then ad else ad.map (·.add (q * 1))) (n - q) (c - q))) w:=by
 have hb:(Instr.sliceBound (.int .i64 (q:Int)) n .sliceB).run P w=.ok q w:=by
  unfold Instr.sliceBound
  simp[asIntOf,hq]
 have hz:(sizeOf e).run P w=.ok 1 w:=by
  cases hE:P.info? e with
  | none=>rw[hE] at hi;cases hi
  | some i =>
   rw[hE] at hi;simp only[Option.map_some,Option.some.injEq] at hi
   simp[sizeOf,typeInfo,hE,hi]
 unfold execOp;simp only[ho,hx,hy,Option.map_some,Option.map_none,Instr.sliceAt,Instr.slice,Instr.sliceBounds,Sem.run_bind,run_underlying hu w,Sem.run_pure,Result.andThen_ok,hb,hz,Option.isSome_none,Bool.false_eq_true,if_false]
theorem exec_to{P:Program}{T e:TypeId}{o:Oper}{a:Act}{x y:Operand}{ad:Option Addr}{n c q:Nat}{w:World}(ho:o.op=.slice T x none (some y) none)(hx:a.eval x=.slice ad n c)(hy:a.eval y=.int .i64 (q:Int))(hu:P.underlying T=some (.slice e))(hi:(P.info? e).map (·.size)=some 1)(hq:q<=n)(hc:n<=c) :
  (execOp a.eval o).run P w=.ok (.value (.slice ad q c)) w:=by
 have hb:(Instr.sliceBound (.int .i64 (q:Int)) c .sliceAcap).run P w=.ok q w:=by
  unfold Instr.sliceBound
  simp[asIntOf,Nat.le_trans hq hc]
 have hz:(sizeOf e).run P w=.ok 1 w:=by
  cases hE:P.info? e with
  | none=>rw[hE] at hi;cases hi
  | some i =>
   rw[hE] at hi;simp only[Option.map_some,Option.some.injEq] at hi
   simp[sizeOf,typeInfo,hE,hi]
 have hm:(if c=0 then ad else ad.map (·.add (0 * 1)))=ad:=by
  split
  ·rfl
  ·cases ad <;> rfl
 unfold execOp;simp only[ho,hx,hy,Option.map_some,Option.map_none,Instr.sliceAt,Instr.slice,Instr.sliceBounds,Sem.run_bind,run_underlying hu w,Sem.run_pure,Result.andThen_ok,hb,hz,Option.isSome_none,Bool.false_eq_true,if_false,if_true];rw[hm];rfl
end Go.Proofs.YtccobobnmpafbaaGreatDoor
