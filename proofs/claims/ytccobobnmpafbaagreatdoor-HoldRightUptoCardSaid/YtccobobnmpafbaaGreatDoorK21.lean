/- A map from strings to strings that the call has made: what it holds, as a list of pairs with no key twice; each operation's law. -/
import Derived.Test.YtccobobnmpafbaaGreatDoorK06
import Derived.StringKeys
import Derived.Maps.StringElems
import Derived.Maps.Ext
import Derived.Sort.KeysCollected
import Derived.Test.YtccobobnmpafbaaGreatDoorK20
import Derived.Test.YtccobobnmpafbaaGreatDoorK01
import Derived.Test.YtccobobnmpafbaaGreatDoorK02
import Derived.Laws.EntriesVeiled
import Derived.Test.YtccobobnmpafbaaGreatDoorK09
import Derived.OwnWalk
import Derived.Test.YtccobobnmpafbaaGreatDoorK08
import Derived.Test.YtccobobnmpafbaaGreatDoorK15
import Derived.Test.YtccobobnmpafbaaGreatDoorK11
import Derived.Test.YtccobobnmpafbaaGreatDoorK19
import Derived.Test.YtccobobnmpafbaaGreatDoorK18
set_option maxRecDepth 100000
set_option maxHeartbeats 100000000
namespace Go.Proofs.YtccobobnmpafbaaGreatDoor
open Go Go.RowKit Go.Maps
theorem keyS:Keyed Tryz.prog 9:=string_keyed Tryz.underlying9
theorem zeroS(w:World):(zeroValue 9).run Tryz.prog w=.ok (.string .empty) w:=Tryz.zeroValue9 w
theorem keyOfS(s:ByteArray)(h:s.size<=1048576):keyOf Tryz.prog 9 (.string s)=some (.string s.data.toList):=Go.WideMaps.keyOf_string_mk Tryz.underlying9 (by unfold maxLen;omega)
theorem elemS(s:ByteArray)(h:s.size<=1048576):plainElem (H:=Unit) Tryz.prog 9 (.string s)=some (.lit (.string s.data.toList),[]):=plainElem_string Tryz.underlying9 (by unfold maxLen;omega)
theorem lit_ne{a b:ByteArray}(h:a≠b):(Lit.string a.data.toList)≠(Lit.string b.data.toList):=fun e=>h (by
 injection e with e
 obtain⟨⟨x⟩⟩:=a;obtain⟨⟨y⟩⟩:=b
 simpa using e)
theorem bytes_eq{a b:ByteArray}(e:a.data.toList=b.data.toList):a=b:=by
 obtain⟨⟨x⟩⟩:=a;obtain⟨⟨y⟩⟩:=b
 simpa using e
structure Reads (D:DataW Unit) (ms:List zab):Prop where
 keys:(ms.map (·.1)).Nodup
 has:∀ k:ByteArray,Maps.has D (.string k.data.toList)=(getP k ms).isSome
 look:∀(k v:ByteArray),getP k ms=some v->∀ z,D.atKey (.string k.data.toList) z=.lit (.string v.data.toList)
 size:Maps.size D=ms.length
theorem getP_nil(k:ByteArray):getP k []=none:=rfl
theorem zbh(k:ByteArray)(p:zab)(r:List zab):getP k (p::r)=if p.1=k then some p.2 else getP k r:=by
 unfold getP;rw[List.find?_cons]
 by_cases h:p.1=k <;> simp[h]
theorem zbg(k:ByteArray)(a b:List zab):getP k (a++b)=(getP k a).or (getP k b):=by
 induction a with
 | nil=>simp[getP_nil]
 | cons p r ih =>
  rw[List.cons_append,zbh,zbh,ih]
  by_cases h:p.1=k <;> simp[h]
theorem getP_none{k:ByteArray}{ms:List zab}:getP k ms=none ↔ k ∉ ms.map (·.1):=by
 induction ms with
 | nil=>simp[getP_nil]
 | cons p r ih =>
  rw[zbh]
  by_cases h:p.1=k
  ·simp[h]
  ·rw[if_neg h,ih];simp only[List.map_cons,List.mem_cons,not_or];exact⟨fun h2=>⟨fun e=>h e.symm,h2⟩,fun h2=>h2.2⟩
theorem zbi{k v:ByteArray}{ms:List zab}(hn:(ms.map (·.1)).Nodup):getP k ms=some v ↔ (k,v)∈ms:=by
 induction ms with
 | nil=>simp[getP_nil]
 | cons p r ih =>
  rw[List.map_cons,List.nodup_cons] at hn;rw[zbh]
  by_cases h:p.1=k
  ·rw[if_pos h]
   constructor
   ·intro e;obtain rfl:=Option.some.inj e;subst h;exact List.mem_cons_self
   ·intro e
    rcases List.mem_cons.1 e with e | e
    ·rw[<- e]
    ·exact absurd (List.mem_map.2 ⟨_,e,rfl⟩) (by rw[h] at hn;exact hn.1)
  ·rw[if_neg h,ih hn.2]
   constructor
   ·exact fun e=>List.mem_cons_of_mem _ e
   ·intro e
    rcases List.mem_cons.1 e with e | e
    ·exact absurd (by rw[<- e]) h
    ·exact e
theorem Reads.empty:Reads (.map []) []:=⟨List.nodup_nil,fun _=>rfl,fun _ _ h=>(by cases h),rfl⟩
theorem Reads.put{D:DataW Unit}{ms:List zab}(h:Reads D ms)(ht:Tidy D)(hi:IsMap D){k v:ByteArray}(hk:WideAt.IsKeyLit (.string k.data.toList))(hno:getP k ms=none):Reads (D.put (.string k.data.toList) (.lit (.string v.data.toList))) (ms++[(k,v)]):=by
 refine⟨?_,fun k'=>?_,fun k' v' hv z=>?_,?_⟩
 ·rw[List.map_append,List.nodup_append];refine⟨h.keys,by simp,fun a ha b hb=>?_⟩;obtain rfl:b=k:=by simpa using hb
  rintro rfl;exact absurd ha (getP_none.1 hno)
 ·by_cases e:k'=k
  ·subst e;rw[has_put_same hi hk,zbg,hno]
   simp[zbh]
  ·rw[has_put_other (lit_ne e),h.has,zbg,zbh,if_neg (fun e2=>e e2.symm),getP_nil]
   simp
 ·by_cases e:k'=k
  ·subst e;rw[atKey_put_same hi hk];rw[zbg,hno,zbh,if_pos rfl] at hv;obtain rfl:v=v':=by simpa using hv
   rfl
  ·rw[atKey_put_other (lit_ne e)];rw[zbg,zbh,if_neg (fun e2=>e e2.symm),getP_nil] at hv;exact h.look k' v' (by simpa using hv) z
 ·rw[size_put ht,h.has,hno,h.size]
  simp
def dropK(k:ByteArray)(ms:List zab):List zab:=ms.filter fun p=>!decide (p.1=k)
theorem getP_drop(k k':ByteArray)(ms:List zab):getP k' (dropK k ms)=if k'=k then none else getP k' ms:=by
 induction ms with
 | nil=>simp[dropK,getP_nil]
 | cons p r ih =>
  unfold dropK at ih ⊢;rw[List.filter_cons]
  by_cases h:p.1=k
  ·simp only[h,decide_true,Bool.not_true,Bool.false_eq_true,↓reduceIte];rw[ih,zbh]
   by_cases e:k'=k
   ·simp[e]
   ·rw[if_neg e,if_neg e,if_neg (by rw[h];exact fun e2=>e e2.symm)]
  ·simp only[h,decide_false,Bool.not_false,↓reduceIte];rw[zbh,zbh,ih]
   by_cases e:p.1=k'
   ·rw[if_pos e,if_pos e,if_neg (fun e2=>h (by rw[e,e2]))]
   ·rw[if_neg e,if_neg e]
theorem dropK_len{k:ByteArray}{ms:List zab}(hn:(ms.map (·.1)).Nodup):(dropK k ms).length+(if (getP k ms).isSome then 1 else 0)=ms.length:=by
 induction ms with
 | nil=>simp[dropK,getP_nil]
 | cons p r ih =>
  rw[List.map_cons,List.nodup_cons] at hn;have ih:=ih hn.2;unfold dropK at ih ⊢;rw[List.filter_cons,zbh]
  by_cases h:p.1=k
  ·have hno:getP k r=none:=getP_none.2 (by rw[<- h];exact hn.1);rw[hno] at ih;simp only[h,decide_true,Bool.not_true,Bool.false_eq_true,↓reduceIte,Option.isSome_some,List.length_cons]
   simpa using ih
  ·rw[if_neg h];simp only[h,decide_false,Bool.not_false,↓reduceIte,List.length_cons];omega
theorem Reads.del{D:DataW Unit}{ms:List zab}(h:Reads D ms)(ht:Tidy D)(k:ByteArray):Reads (D.del (.string k.data.toList)) (dropK k ms):=by
 refine⟨?_,fun k'=>?_,fun k' v' hv z=>?_,?_⟩
 ·exact h.keys.sublist (List.Sublist.map _ List.filter_sublist)
 ·rw[getP_drop]
  by_cases e:k'=k
  ·subst e;rw[has_del_same];simp
  ·rw[has_del_other (lit_ne e),h.has,if_neg e]
 ·rw[getP_drop] at hv
  by_cases e:k'=k
  ·simp[e] at hv
  ·rw[if_neg e] at hv;rw[atKey_del_other (lit_ne e)];exact h.look k' v' hv z
 ·have h1:=size_del (k:=.string k.data.toList) ht;have h2:=dropK_len (k:=k) h.keys;rw[h.has] at h1;have h3:=h.size;omega
def MapIs(w:World)(B n:Nat)(ms:List zab):Prop:=∃ D:DataW Unit,w.ownsMap Tryz.prog 9 (plainElem Tryz.prog 9) B n D/\Reads D ms
theorem MapIs.made(w:World):MapIs (w.alloc (.map #[] 0)) w.heap.size 0 []:=⟨_,World.ownsMap_made _ _ _ _,Reads.empty⟩
theorem grownBy_grew{w w':World}(h:Grew w w'):w.grownBy w' none:=⟨h.os,h.tape,h.output,h.size,fun i hi _=>h.block i hi⟩
theorem MapIs.grew{w w':World}{B n:Nat}{ms:List zab}(h:MapIs w B n ms)(hg:Grew w w'):MapIs w' B n ms:=by
 obtain⟨D,h1,h2⟩:=h;exact⟨D,h1.kept (grownBy_grew hg) (by simp),h2⟩
theorem MapIs.keys{w:World}{B n:Nat}{ms:List zab}(h:MapIs w B n ms):(ms.map (·.1)).Nodup:=h.choose_spec.2.keys
theorem MapIs.lt{w:World}{B n:Nat}{ms:List zab}(h:MapIs w B n ms):B < w.heap.size:=h.choose_spec.1.lt
section
variable {P:Program} (w:World) {ops:Array Oper} {rest:List Oper} {o:Oper} {a:Act} {Q:Exit->Act->World->Prop}
theorem wp_look(hg:o.guard=none)(m x:Operand)(hop:o.op=Op.lookup 170 m x true)(B n:Nat)(ms:List zab)(hm:a.eval m=.map (some B))(h:MapIs w B n ms)(k:ByteArray)(hx:a.eval x=.string k)(hk:k.size<=1048576)(hK:wpList Tryz.prog ops Q rest (a.put o.dst (.tuple #[.string ((getP k ms).getD .empty),.bool (getP k ms).isSome])) w):wpList Tryz.prog ops Q (o::rest) a w:=by
 obtain⟨D,h1,h2⟩:=h;refine wpList_lookup_own_ok w hg m x 170 hop 9 9 keyS Tryz.underlying170 (plainElem Tryz.prog 9) (zeroS w) (.lit (.string [])) [] (elemS .empty (by decide)) B n D hm h1 (.string k) (.string k.data.toList) hx (keyOfS k hk) ?_;intro v ps hv;obtain⟨s,rfl,hs,_⟩:=plainElem_string_inv Tryz.underlying9 hv;have hs:D.atKey (.string k.data.toList) (.lit (.string []))=.lit (.string s.data.toList):=congrArg Prod.fst hs;rw[h2.has]
 have e:(getP k ms).getD .empty=s:=by
  cases hg:getP k ms with
  | none =>
   have h3:=h2.has k;rw[hg] at h3;rw[atKey_of_not_has h3] at hs;injection hs with hs
   injection hs with hs
   exact (bytes_eq hs)
  | some v =>
   rw[h2.look k v hg] at hs;injection hs with hs
   injection hs with hs
   exact (bytes_eq hs)
 rw[e] at hK;exact hK
theorem wp_store(hg:o.guard=none)(m x v:Operand)(hop:o.op=Op.mapUpdate 170 m x v)(B n:Nat)(ms:List zab)(hm:a.eval m=.map (some B))(h:MapIs w B n ms)(hn:n < maxLen)(p:zab)(hx:a.eval x=.string p.1)(hv:a.eval v=.string p.2)(hk:p.1.size<=1048576)(hvs:p.2.size<=1048576)(hno:getP p.1 ms=none)(hK:∀ w',MapIs w' B (n+1) (ms++[p])->w.grownBy w' (some B)->wpList Tryz.prog ops Q rest (a.put o.dst undef) w'):wpList Tryz.prog ops Q (o::rest) a w:=by
 obtain⟨D,h1,h2⟩:=h;refine wpList_mapUpdate_own w hg m x v 170 hop 9 9 keyS Tryz.underlying170 (plainElem Tryz.prog 9) B n D hm h1 hn (.string p.1) (.string p.2) (.string p.1.data.toList) hx hv (keyOfS _ hk) (.lit (.string p.2.data.toList)) [] (elemS _ hvs) ?_;intro w' h3 h4;exact hK w' ⟨_,h3,h2.put (h1.tidy keyS) h1.isMap (keyS.key (keyOfS _ hk)) hno⟩ h4
theorem wp_drop(hg:o.guard=none)(m x:Operand)(hop:o.op=Op.call { callee:=Callee.builtin Builtin.delete,args:=#[m,x],argTypes:=#[170,9] })(B n:Nat)(ms:List zab)(hm:a.eval m=.map (some B))(h:MapIs w B n ms)(k:ByteArray)(hx:a.eval x=.string k)(hk:k.size<=1048576)(hK:∀ w',MapIs w' B n (dropK k ms)->w.grownBy w' (some B)->wpList Tryz.prog ops Q rest (a.put o.dst (.tuple #[])) w'):wpList Tryz.prog ops Q (o::rest) a w:=by
 obtain⟨D,h1,h2⟩:=h;refine wpList_delete_own w hg m x 170 9 hop 9 keyS Tryz.underlying170 (plainElem Tryz.prog 9) B n D hm h1 (.string k) (.string k.data.toList) hx (keyOfS k hk) ?_;intro w' h3 h4;exact hK w' ⟨_,h3,h2.del (h1.tidy keyS) k⟩ h4.grown
theorem wp_len(hg:o.guard=none)(m:Operand)(hop:o.op=Op.call { callee:=Callee.builtin Builtin.len,args:=#[m],argTypes:=#[170] })(B n:Nat)(ms:List zab)(hm:a.eval m=.map (some B))(h:MapIs w B n ms)(hK:wpList Tryz.prog ops Q rest (a.put o.dst (.int .i64 ms.length)) w):wpList Tryz.prog ops Q (o::rest) a w:=by
 obtain⟨D,h1,h2⟩:=h;refine wpList_len_own w hg m 170 hop 9 9 Tryz.underlying170 (plainElem Tryz.prog 9) B n D hm h1 ?_;rw[h2.size];exact hK
end
end Go.Proofs.YtccobobnmpafbaaGreatDoor
namespace Go.Proofs.YtccobobnmpafbaaGreatDoor
open Go Go.RowKit Go.Maps
theorem zbU{α β:Type}(f:α->β):∀ {l:List α},(l.map f).Nodup->l.Nodup
 | [],_=>List.nodup_nil
 | x::r,h=>by
  rw[List.map_cons,List.nodup_cons] at h;exact List.nodup_cons.2 ⟨fun hm=>h.1 (List.mem_map.2 ⟨x,hm,rfl⟩),zbU f h.2⟩
structure Come (D:DataW Unit) (left:Lit->Bool) (ms got:List zab):Prop where
 keys:(got.map (·.1)).Nodup
 mem:∀ p:zab,p∈got ↔ (getP p.1 ms=some p.2/\left (.string p.1.data.toList)=false)
theorem Come.start{D:DataW Unit}{ms:List zab}(h:Reads D ms):Come D (Maps.has D) ms []:=⟨List.nodup_nil,fun p=>by
 constructor
 ·intro e;cases e
 ·rintro⟨h1,h2⟩;rw[h.has,h1] at h2
  cases h2⟩
theorem Come.step{D:DataW Unit}{left:Lit->Bool}{ms got:List zab}(h:Come D left ms got)(hR:Reads D ms){x c:ByteArray}(hl:left (.string x.data.toList)=true)(hat:∀ zd,D.atKey (.string x.data.toList) zd=.lit (.string c.data.toList))(hk:WideAt.IsKeyLit (.string x.data.toList)) :
  Come D (fun z=>left z && !z.sameKey (.string x.data.toList)) ms (got++[(x,c)]):=by
 have hx:getP x ms=some c:=by
  have h1:=has_true_of_atKey hat;rw[hR.has] at h1;obtain⟨v,hv⟩:=Option.isSome_iff_exists.1 h1;have h2:=hR.look x v hv (.lit (.string []));rw[hat] at h2;injection h2 with h2
  injection h2 with h2
  rw[hv,bytes_eq h2]
 have hno:∀ p∈got,p.1≠x:=fun p hp e=>by
  have:=((h.mem p).1 hp).2;rw[e,hl] at this
  cases this
 refine⟨?_,fun p=>?_⟩
 ·rw[List.map_append,List.nodup_append];refine⟨h.keys,by simp,fun a ha b hb=>?_⟩;obtain rfl:b=x:=by simpa using hb
  obtain⟨p,hp,rfl⟩:=List.mem_map.1 ha;exact hno p hp
 ·by_cases e:p.1=x
  ·have hs:(Lit.string p.1.data.toList).sameKey (.string x.data.toList)=true:=by rw[e];exact WideAt.sameKey_self hk
   rw[hs,e,hx];simp only[Bool.not_true,Bool.and_false,and_true,List.mem_append,List.mem_singleton]
   constructor
   ·rintro (h1 | h1)
    ·exact absurd e (hno p h1)
    ·rw[h1]
   ·intro h1;exact Or.inr (Prod.ext e (Option.some.inj h1).symm)
  ·have hs:(Lit.string p.1.data.toList).sameKey (.string x.data.toList)=false:=sameKey_ne (lit_ne e);rw[hs];simp only[Bool.not_false,Bool.and_true,List.mem_append,List.mem_singleton];rw[<- h.mem p]
   constructor
   ·rintro (h1 | h1)
    ·exact h1
    ·exact absurd (by rw[h1]) e
   ·exact Or.inl
theorem Come.end{D:DataW Unit}{left:Lit->Bool}{ms got:List zab}(h:Come D left ms got)(hn:(ms.map (·.1)).Nodup)(hl:∀ kl,left kl=false):got.Perm ms:=by
 have n1:got.Nodup:=zbU _ h.keys;have n2:ms.Nodup:=zbU _ hn;refine (List.perm_ext_iff_of_nodup n1 n2).2 (fun p=>?_);rw[h.mem p,zbi hn]
 simp[hl]
def RangeIs(w:World)(B r n:Nat)(ms got:List zab)(cnt:Nat):Prop:=∃(D:DataW Unit) (left:Lit->Bool),w.ranges Tryz.prog 9 (plainElem Tryz.prog 9) B r n D left cnt/\Reads D ms/\Come D left ms got/\got.length+cnt<=ms.length
theorem RangeIs.kept{w w':World}{B r n cnt:Nat}{ms got:List zab}{row:Option Nat}(h:RangeIs w B r n ms got cnt)(hg:w.grownBy w' row)(h1:some B≠row)(h2:some r≠row):RangeIs w' B r n ms got cnt:=by
 obtain⟨D,left,hr,hR,hC,hl⟩:=h;exact⟨D,left,hr.kept hg h1 h2,hR,hC,hl⟩
theorem RangeIs.measure{w:World}{B r n cnt:Nat}{ms got:List zab}(h:RangeIs w B r n ms got cnt):w.rangeLeft B r=cnt:=h.choose_spec.choose_spec.1.left_eq
theorem RangeIs.lt{w:World}{B r n cnt:Nat}{ms got:List zab}(h:RangeIs w B r n ms got cnt):r < w.heap.size/\B < w.heap.size/\r≠B:=⟨h.choose_spec.choose_spec.1.lt,h.choose_spec.choose_spec.1.owns.lt,h.choose_spec.choose_spec.1.ne⟩
theorem RangeIs.len{w:World}{B r n cnt:Nat}{ms got:List zab}(h:RangeIs w B r n ms got cnt):got.length+cnt<=ms.length:=h.choose_spec.choose_spec.2.2.2
section
variable (w:World) {ops:Array Oper} {rest:List Oper} {o:Oper} {a:Act} {Q:Exit->Act->World->Prop}
theorem wp_range(hg:o.guard=none)(m:Operand)(hop:o.op=Op.range 170 m)(B n:Nat)(ms:List zab)(hm:a.eval m=.map (some B))(h:MapIs w B n ms)(hK:∀ w' cnt,RangeIs w' B w.heap.size n ms [] cnt->Grew w w'->wpList Tryz.prog ops Q rest (a.put o.dst (.pointer (some ⟨w.heap.size,0,none⟩))) w'):wpList Tryz.prog ops Q (o::rest) a w:=by
 obtain⟨D,h1,h2⟩:=h;refine wpList_range_own w hg m 170 hop 9 9 keyS Tryz.underlying170 (plainElem Tryz.prog 9) B n D hm h1 ?_;intro w' h3 h4 _;exact hK w' _ ⟨D,_,h3,h2,Come.start h2,by rw[List.length_nil,h2.size];omega⟩ ⟨h4.os,h4.tape,h4.output,h4.size,fun i hi=>h4.block i hi (by simp)⟩
theorem wp_next(hg:o.guard=none)(it:Operand)(hop:o.op=Op.next it false)(B r n cnt:Nat)(ms got:List zab)(hit:a.eval it=.pointer (some ⟨r,0,none⟩))(h:RangeIs w B r n ms got cnt)(hDone:got.Perm ms->wpList Tryz.prog ops Q rest (a.put o.dst (.tuple #[.bool false])) w)(hMore:∀(p:zab) (w':World) (cnt':Nat),RangeIs w' B r n ms (got++[p]) cnt'->cnt' < cnt->getP p.1 ms=some p.2->w.grownBy w' (some r)->(Instr.entry (.pointer (some ⟨r,0,none⟩))).run Tryz.prog w'=.ok (.tuple #[.string p.1,.string p.2]) w'->wpList Tryz.prog ops Q rest (a.put o.dst (.tuple #[.bool true,.string p.1,.string p.2])) w') :
  wpList Tryz.prog ops Q (o::rest) a w:=by
 obtain⟨D,left,hr,hR,hC,hl⟩:=h
 refine wpList_next_ranges w hg it hop 9 keyS (plainElem Tryz.prog 9) encStr Value.string (fun key kl hk=>by obtain⟨x,hx,_⟩:=Maps.keyOf_str Tryz.underlying9 hk;exact⟨x,hx⟩) (fun v y hv=>by obtain⟨c,rfl,_⟩:=plainElem_string_inv Tryz.underlying9 hv;exact⟨c,rfl⟩)
  B r n D left cnt hit hr (fun _ hl0=>hDone (hC.end hR.keys hl0)) ?_
 intro x c kl y w' cnt' hkey hlk hv hat hrg hlt hgr _ hen;obtain⟨x',ex,rfl,_⟩:=Maps.keyOf_str Tryz.underlying9 hkey;obtain rfl:x=x':=encStr_inj ex;obtain⟨c',ec,rfl,_⟩:=plainElem_string_inv Tryz.underlying9 hv
 cases ec
 have hx:((⟨x.toArray⟩:ByteArray).data.toList)=x:=by simp
 have e:encStr x=.string ⟨x.toArray⟩:=rfl;rw[e] at hen ⊢;rw[<- hx] at hlk hat hrg hkey;have hkl:=keyS.key hkey;have hst:=hC.step hR hlk hat hkl;have hp:getP (⟨x.toArray⟩:ByteArray) ms=some c:=((hst.mem (⟨x.toArray⟩,c)).1 (by simp)).1;exact hMore (⟨x.toArray⟩,c) w' cnt' ⟨D,_,hrg,hR,hst,by rw[List.length_append,List.length_singleton];omega⟩ hlt hp hgr hen
end
end Go.Proofs.YtccobobnmpafbaaGreatDoor
namespace Go.Proofs.YtccobobnmpafbaaGreatDoor
open Go Go.RowKit
theorem setCells_keepsP(b:Nat):∀(vs:List Value) (o:Nat) (w:World),Keeps (·=b) w (w.setCells b o vs)
 | [],_,w=>Keeps.refl _ w
 | v::r,o,w=>((Keeps.refl (·=b) w).own o v).trans (setCells_keepsP b r (o+1) _)
theorem getD_snocP(l:List zab)(x:zab):(l++[x]).getD l.length default=x:=by simp[List.getD]
def keptP(pr:zab->Bool)(ls:List zab)(j:Nat):List zab:=(ls.take j).filter fun p=>!pr p
theorem keptP_skip{pr:zab->Bool}{ls:List zab}{j:Nat}(hj:j < ls.length)(h:pr (ls.getD j default)=true):keptP pr ls (j+1)=keptP pr ls j:=by
 unfold keptP;rw[zc2 ls j hj,List.filter_append,List.filter_cons,h]
 simp
theorem keptP_more{pr:zab->Bool}{ls:List zab}{j:Nat}(hj:j < ls.length)(h:pr (ls.getD j default)=false):keptP pr ls (j+1)=keptP pr ls j++[ls.getD j default]:=by
 unfold keptP;rw[zc2 ls j hj,List.filter_append]
 congr 1
 rw[List.filter_cons,h];rfl
theorem keptP_all{pr:zab->Bool}{ls:List zab}:∀ {j:Nat},j<=ls.length->(∀ i,i < j->pr (ls.getD i default)=false)->keptP pr ls j=ls.take j:=by
 intro j
 induction j with
 | zero=>intro _ _;simp[keptP]
 | succ j ih=>intro h1 h2;rw[keptP_more (by omega) (h2 j (by omega)),ih (by omega) (fun i hi=>h2 i (by omega)),zc2 ls j (by omega)]
theorem keptP_end(pr:zab->Bool)(ls:List zab):keptP pr ls ls.length=ls.filter fun p=>!pr p:=by unfold keptP;rw[List.take_length]
structure DelP (w:World) (g:Nat) (ls:List zab) (pr:zab->Bool) (i j:Nat) (wr:World):Prop where
 keeps:Keeps (·=g) w wr
 lt:i < j
 le:j<=ls.length
 len:(keptP pr ls j).length=i
 low:∀ t,t < i->wr.cell? ⟨g,t * 2,none⟩=some (.string ((keptP pr ls j).getD t default).1)/\wr.cell? ⟨g,t * 2+1,none⟩=some (.string ((keptP pr ls j).getD t default).2)
 high:∀ t,j<=t->t < ls.length->wr.cell? ⟨g,t * 2,none⟩=some (.string (ls.getD t default).1)/\wr.cell? ⟨g,t * 2+1,none⟩=some (.string (ls.getD t default).2)
 there:∀ t,t < ls.length * 2->(wr.cell? ⟨g,t,none⟩).isSome=true
 soft:∀ t,wr.frozen? ⟨g,t,none⟩=false
theorem DelP.grew{w:World}{g:Nat}{ls:List zab}{pr:zab->Bool}{i j:Nat}{wr wr':World}(h:DelP w g ls pr i j wr)(hg:Grew wr wr')(hz:g < w.heap.size):DelP w g ls pr i j wr':=by
 have hz1:g < wr.heap.size:=Nat.lt_of_lt_of_le hz h.keeps.size;have q:∀ t,wr'.cell? ⟨g,t,none⟩=wr.cell? ⟨g,t,none⟩:=fun t=>hg.cell (p:=⟨g,t,none⟩) hz1;exact⟨h.keeps.trans (hg.keeps _),h.lt,h.le,h.len,fun t ht=>⟨(q _).trans (h.low t ht).1,(q _).trans (h.low t ht).2⟩,fun t h1 h2=>⟨(q _).trans (h.high t h1 h2).1,(q _).trans (h.high t h1 h2).2⟩,fun t ht=>by rw[q];exact h.there t ht,fun t=>(hg.frozen (p:=⟨g,t,none⟩) hz1).trans (h.soft t)⟩
theorem DelP.skip{w:World}{g:Nat}{ls:List zab}{pr:zab->Bool}{i j:Nat}{wr:World}(h:DelP w g ls pr i j wr)(hj:j < ls.length)(hp:pr (ls.getD j default)=true):DelP w g ls pr i (j+1) wr :=
 ⟨h.keeps,Nat.lt_succ_of_lt h.lt,hj,by rw[keptP_skip hj hp];exact h.len,fun t ht=>by rw[keptP_skip hj hp];exact h.low t ht,fun t h1 h2=>h.high t (by omega) h2,h.there,h.soft⟩
theorem DelP.put{w:World}{g:Nat}{ls:List zab}{pr:zab->Bool}{i j:Nat}{wr:World}(h:DelP w g ls pr i j wr)(hj:j < ls.length)(hp:pr (ls.getD j default)=false) :
  DelP w g ls pr (i+1) (j+1) ((wr.setCell ⟨g,i * 2,none⟩ (.string (ls.getD j default).1)).setCell ⟨g,i * 2+1,none⟩ (.string (ls.getD j default).2)):=by
 have hl:=h.lt;obtain⟨u,hu⟩:=Option.isSome_iff_exists.1 (h.there (i * 2) (by omega));obtain⟨u',hu'⟩:=Option.isSome_iff_exists.1 (h.there (i * 2+1) (by omega));have hu2:(wr.setCell ⟨g,i * 2,none⟩ (.string (ls.getD j default).1)).cell? ⟨g,i * 2+1,none⟩=some u':=by rw[zau (by omega)];exact hu'
 have out:∀ t,t≠i * 2->t≠i * 2+1->((wr.setCell ⟨g,i * 2,none⟩ (.string (ls.getD j default).1)).setCell ⟨g,i * 2+1,none⟩ (.string (ls.getD j default).2)).cell? ⟨g,t,none⟩=wr.cell? ⟨g,t,none⟩:=fun t h1 h2=>by
  rw[zau (Ne.symm h2),zau (Ne.symm h1)]
 have in0:((wr.setCell ⟨g,i * 2,none⟩ (.string (ls.getD j default).1)).setCell ⟨g,i * 2+1,none⟩ (.string (ls.getD j default).2)).cell? ⟨g,i * 2,none⟩=some (.string (ls.getD j default).1):=by
  rw[zau (by omega)];exact World.cell?_setCell_same _ _ _ hu
 have in1:((wr.setCell ⟨g,i * 2,none⟩ (.string (ls.getD j default).1)).setCell ⟨g,i * 2+1,none⟩ (.string (ls.getD j default).2)).cell? ⟨g,i * 2+1,none⟩=some (.string (ls.getD j default).2) :=
  World.cell?_setCell_same _ _ _ hu2
 refine⟨(h.keeps.own _ _).own _ _,by omega,hj,by rw[keptP_more hj hp,List.length_append,h.len];rfl,fun t ht=>?_,fun t h1 h2=>?_,fun t ht=>?_,fun t=>by rw[World.frozen?_setCell,World.frozen?_setCell];exact h.soft t⟩
 ·rw[keptP_more hj hp]
  rcases Nat.lt_or_ge t i with h1 | h1
  ·rw[out _ (by omega) (by omega),out _ (by omega) (by omega)];have hlen:=h.len;have:=h.low t h1
   simpa [List.getD,List.getElem?_append_left (show t < (keptP pr ls j).length by omega)] using this
  ·obtain rfl:t=i:=by omega
   rw[in0,in1];have hs:=getD_snocP (keptP pr ls j) (ls.getD j default);rw[h.len] at hs;rw[hs];exact⟨rfl,rfl⟩
 ·rw[out _ (by omega) (by omega),out _ (by omega) (by omega)];exact h.high t (by omega) h2
 ·by_cases h1:t=i * 2
  ·subst h1;rw[in0];rfl
  ·by_cases h2:t=i * 2+1
   ·subst h2;rw[in1];rfl
   ·rw[out _ h1 h2];exact h.there t ht
theorem DelP.done{w:World}{g cap:Nat}{ls:List zab}{pr:zab->Bool}{i:Nat}{wr:World}(h:DelP w g ls pr i ls.length wr)(hcap:ls.length<=cap)(hm:cap<=maxLen)(vs:List Value) :
  Keeps (·=g) w (wr.setCells g (i * 2) vs)/\(ls.filter fun p=>!pr p).length=i/\PropsIn (wr.setCells g (i * 2) vs) g (g+1) (some ⟨g,0,none⟩) cap (ls.filter fun p=>!pr p):=by
 have hlen:=h.len;have hlow:=h.low;rw[keptP_end] at hlen hlow;have hl:=h.lt;refine⟨h.keeps.trans (setCells_keepsP g vs (i * 2) wr),hlen,⟨by simp,by omega,hm⟩,fun _=>⟨g,0,rfl,Nat.le_refl _,by omega,fun t ht j hj=>?_⟩⟩;rw[Nat.zero_add,World.cell?_setCells_out g vs (i * 2) wr _ (fun _ _=>Or.inl (by show t * 2+j < i * 2;omega))]
 match j,hj with
 | 0,_=>exact (hlow t (by omega)).1
 | 1,_=>exact (hlow t (by omega)).2
theorem DelP.start{w wr:World}{g cap k:Nat}{ls:List zab}{pr:zab->Bool}(hrow:OwnRow w g (g+1) (some ⟨g,0,none⟩) ls.length cap 2 (fun i j=>zca (ls.getD i default) j))(hg:Grew w wr)(hz:g < w.heap.size)(hk:k < ls.length)(h1:∀ j,j < k->pr (ls.getD j default)=false)(h2:pr (ls.getD k default)=true):DelP w g ls pr k (k+1) wr:=by
 have hcells:∀ t,t < ls.length->w.cell? ⟨g,t * 2,none⟩=some (.string (ls.getD t default).1)/\w.cell? ⟨g,t * 2+1,none⟩=some (.string (ls.getD t default).2):=fun t ht=>by
  obtain⟨b,o,hb,_,_,hc⟩:=hrow.1.2 (by omega);obtain⟨rfl,rfl⟩:g=b/\0=o:=by injection hb with hb;injection hb with hb1 hb2;exact⟨hb1,hb2⟩
  have e0:=hc t ht 0 (by omega);have e1:=hc t ht 1 (by omega);rw[Nat.zero_add] at e0 e1;exact⟨e0,e1⟩
 have hsoft:∀ t,w.frozen? ⟨g,t,none⟩=false:=hrow.2 (by omega) _ rfl;have hall:=keptP_all (pr:=pr) (Nat.le_of_lt hk) h1
 have h0:DelP w g ls pr k (k+1) w:=⟨Keeps.refl _ _,by omega,hk,by rw[keptP_skip hk h2,hall,List.length_take];omega,fun t ht=>by
  rw[keptP_skip hk h2,hall];have:=hcells t (by omega)
  simpa [List.getD,ht] using this,fun t _ h4=>hcells t h4,fun t ht=>by
  have h3:=hcells (t / 2) (by omega)
  rcases Nat.mod_two_eq_zero_or_one t with h4 | h4
  ·rw[show t=t / 2 * 2 by omega,h3.1];rfl
  ·rw[show t=t / 2 * 2+1 by omega,h3.2];rfl,hsoft⟩
 exact h0.grew hg hz
structure PP where
 a:Option Addr
 c:Nat
 ps:List zab
instance:Inhabited PP:=⟨⟨none,0,[]⟩⟩
def PP.val(p:PP):Value:=.slice p.a p.ps.length p.c
def PPIn(w:World)(a:Option Addr)(c:Nat)(l:List PP):Prop:=RowIn w 0 w.heap.size a l.length c 1 (fun i _=>(l.getD i default).val)/\∀ p∈l,PropsIn w 0 w.heap.size p.a p.c p.ps
theorem PPIn.grew{w w':World}{a:Option Addr}{c:Nat}{l:List PP}(h:PPIn w a c l)(hg:Grew w w'):PPIn w' a c l :=
 ⟨(h.1.agree (hg.agree zQ1)).mono zQ1 hg.size,fun p hp=>((h.2 p hp).grew hg zQ1).mono zQ1 hg.size⟩
theorem PPIn.at{w:World}{a:Option Addr}{c:Nat}{l:List PP}(h:PPIn w a c l){j:Nat}(hj:j < l.length):∃ b o,a=some ⟨b,o,none⟩/\w.cell? ⟨b,o+j,none⟩=some (l.getD j default).val:=by
 obtain⟨b,o,ha,_,_,hc⟩:=h.1.2 (by omega);have:=hc j hj 0 (by omega);exact⟨b,o,ha,by simpa using this⟩
def za7:List (List zab)->Int
 | []=>0
 | x::r=>if zaP x≠0 then zaP x else za7 r
theorem firstBad_good{l:List (List zab)}{k:Nat}{x:List zab}(hx:l[k]? = some x)(h:za7 (l.take k)=0)(h0:zaP x=0):za7 (l.take (k+1))=0:=by
 induction l generalizing k with
 | nil=>simp at hx
 | cons y r ih =>
  cases k with
  | zero =>
   obtain rfl:y=x:=by simpa using hx
   simp[za7,h0]
  | succ k =>
   simp only[List.take_succ_cons,za7] at h ⊢
   by_cases h1:zaP y=0
   ·simp only[h1,ne_eq,not_true_eq_false,↓reduceIte] at h ⊢;exact ih (by simpa using hx) h
   ·simp[h1] at h
theorem firstBad_bad{l:List (List zab)}{k:Nat}{x:List zab}(hx:l[k]? = some x)(h:za7 (l.take k)=0)(h0:zaP x≠0):za7 l=zaP x:=by
 induction l generalizing k with
 | nil=>simp at hx
 | cons y r ih =>
  cases k with
  | zero =>
   obtain rfl:y=x:=by simpa using hx
   simp[za7,h0]
  | succ k =>
   simp only[List.take_succ_cons,za7] at h
   by_cases h1:zaP y=0
   ·simp only[h1,ne_eq,not_true_eq_false,↓reduceIte] at h
    simp[za7,h1,ih (by simpa using hx) h]
   ·simp[h1] at h
theorem pp_at{l:List PP}{k:Nat}(h:k < l.length):(l.map PP.ps)[k]? = some (l.getD k default).ps:=by
 rw[List.getElem?_map,List.getElem?_eq_getElem h];simp[List.getD,List.getElem?_eq_getElem h]
theorem checkAll_any(l:List PP)(a:Option Addr)(c:Nat)(w:World)(h:PPIn w a c l)(hb:∀ p∈l,zcb p.ps<=1048576)(hl:l.length<=1048576) :
  Calls Tryz.prog 157 #[.slice a l.length c] w fun e w'=>e=.returned (.int .i64 (za7 (l.map PP.ps)))/\Grew w w':=by
 go_enter Tryz.func157,Tryz.ntmps157
 go_wp2_with fail
 go_loopw [8] (fun i wr=>∃(k:Nat),k<=l.length/\i=.int .i64 k/\Grew w wr/\Hid (za7 ((l.map PP.ps).take k)=0)) (fun i _=>l.length - (intOf i).toNat)
 case atStart=>exact⟨0,by omega,rfl,Grew.refl _,(show za7 (List.take 0 _)=0 by simp[za7])⟩
 case round =>
  obtain⟨k,hk,rfl,hg,hA⟩:=hrel
  by_cases hlt:k < l.length
  ·have hx:=h.grew hg;obtain⟨b,o,rfl,c0⟩:=hx.at hlt;have hm:=zbd l k hlt;have C:=zQ0 (zaN (l.getD k default).ps (l.getD k default).a (l.getD k default).c wr _ _ (hx.2 _ hm) zQ1 (hb _ hm));have HG:=zQ0 (firstBad_good (pp_at hlt) hA.out);have HB:=zQ0 (firstBad_bad (pp_at hlt) hA.out);clear hA hx hm;unfold PP.val at c0;generalize l.getD k default=x at *
   by_cases hz:zaP x.ps=0
   ·have HN:=zQ0 (HG.out hz);rw[hz] at C;clear hz HG HB;go_wp2_with fail
    refine C.out.mono ?_;rintro e w1 ⟨rfl,g1⟩;go_wp2_with fail
    go_roundw
    case rel=>exact⟨k+1,by omega,by go_num,hg.trans g1,HN⟩
    case measure=>simp[intOf];omega
   ·have HN:=zQ0 (HB.out hz);have hne:(zaP x.ps != 0)=true:=by simpa using hz
    clear HG HB;generalize zaP x.ps=v at *;go_wp2_with fail
    refine C.out.mono ?_;rintro e w1 ⟨rfl,g1⟩;go_wp2_with fail
    go_ret
    exact⟨zcz HN.out.symm,hg.trans g1⟩
  ·have HN:Hid (za7 (l.map PP.ps)=0):=by
    show _=_
    have:=hA.out
    rwa [List.take_of_length_le (by simp;omega)] at this
   have hge:l.length<=k:=by omega
   clear hA;go_wp2_with fail
   go_ret
   exact⟨zcz HN.out.symm,hg⟩
end Go.Proofs.YtccobobnmpafbaaGreatDoor
namespace Go.Proofs.YtccobobnmpafbaaGreatDoor
open Go Go.RowKit Go.Maps
def zbL(l o:List zab):List zab:=o.foldl (fun m p=>dropK p.1 m) l
theorem minusK_snoc(l o:List zab)(p:zab):zbL l (o++[p])=dropK p.1 (zbL l o):=by simp[zbL]
theorem zbM(l r:List zab)(p:zab):zbL l (p::r)=zbL (dropK p.1 l) r:=rfl
theorem getP_minus_out{k:ByteArray}:∀ {o l:List zab},k ∉ o.map (·.1)->getP k (zbL l o)=getP k l
 | [],_,_=>rfl
 | p::r,l,h=>by
  rw[List.map_cons,List.mem_cons,not_or] at h;rw[zbM,getP_minus_out h.2,getP_drop,if_neg h.1]
theorem minusK_len(l o:List zab):(zbL l o).length<=l.length:=by
 induction o generalizing l with
 | nil=>simp[zbL]
 | cons p r ih =>
  rw[zbM];exact Nat.le_trans (ih _) (List.length_filter_le _ _)
theorem take_fresh{o:List zab}(h:(o.map (·.1)).Nodup){k:Nat}(hk:k < o.length):(o.getD k default).1 ∉ (o.take k).map (·.1):=by
 have h1:o=o.take k++o.getD k default::o.drop (k+1):=by
  conv=>lhs;rw[<- List.take_append_drop k o,zaZ o k hk]
 rw[h1,List.map_append,List.nodup_append] at h;intro hm;exact h.2.2 _ hm _ (by simp) rfl
def zb5(l old new:List zab):Int :=
 if za7 [l,old,new]≠0 then za7 [l,old,new] else if (old.all fun p=>decide (getP p.1 l=some p.2))=false then 9
 else if (new.any fun p=>(getP p.1 (zbL l old)).isSome)=true then 9 else if 16 < (zbL l old++new).length then 2 else 0
def PatchEnds(l old new:List zab)(w:World)(e:Ending)(w':World):Prop :=
 ∃ a c R,e=.returned (.tuple #[.slice a R.length c,.int .i64 (zb5 l old new)])/\Grew w w'/\OwnRow w' w.heap.size w'.heap.size a R.length c 2 (fun i j=>zca (R.getD i default) j) /\
  Hid ((zb5 l old new≠0/\R=[])\/(zb5 l old new=0/\IsSort R (zbL l old++new)))
theorem ownRow_nil{w:World}{lo hi:Nat}{f:Nat->Nat->Value}:OwnRow w lo hi none 0 0 2 f:=⟨zcD,fun h=>by omega⟩
theorem zb8{l old new:List zab}{w w':World}{v:Int}(h:zb5 l old new=v)(hv:v≠0)(hg:Grew w w'):PatchEnds l old new w (.returned (.tuple #[.slice none 0 0,.int .i64 v])) w' :=
 ⟨none,0,[],by rw[h];rfl,hg,ownRow_nil,Or.inl ⟨by rw[h];exact hv,rfl⟩⟩
theorem patch_done{l old new R:List zab}{w w':World}{a:Option Addr}{c:Nat}(h:zb5 l old new=0)(hs:IsSort R (zbL l old++new))(hg:Grew w w')(hrow:OwnRow w' w.heap.size w'.heap.size a R.length c 2 (fun i j=>zca (R.getD i default) j)) :
  PatchEnds l old new w (.returned (.tuple #[.slice a R.length c,.int .i64 0])) w':=⟨a,c,R,by rw[h],hg,hrow,Or.inr ⟨h,hs⟩⟩
theorem firstBad_ups{l old new:List zab}(h:za7 [l,old,new]=0):Up l/\Up old/\Up new:=by
 simp only[za7] at h
 by_cases h1:zaP l=0
 ·by_cases h2:zaP old=0
  ·by_cases h3:zaP new=0
   ·exact⟨up_of_check h1,up_of_check h2,up_of_check h3⟩
   ·simp[h1,h2,h3] at h
  ·simp[h1,h2] at h
 ·simp[h1] at h
theorem pp_three(w:World)(x y z:PP)(t:TypeId)(hx:PropsIn w 0 w.heap.size x.a x.c x.ps)(hy:PropsIn w 0 w.heap.size y.a y.c y.ps)(hz:PropsIn w 0 w.heap.size z.a z.c z.ps):PPIn (w.alloc (.cells #[x.val,y.val,z.val] t)) (some ⟨w.heap.size,0,none⟩) 3 [x,y,z]:=by
 have hg:=Grew.alloc1 w (.cells #[x.val,y.val,z.val] t);refine⟨⟨⟨by simp,by simp,by unfold maxLen;omega⟩,fun _=>⟨w.heap.size,0,rfl,Nat.zero_le _,by simp,fun i hi j hj=>?_⟩⟩,fun p hp=>?_⟩
 ·obtain rfl:j=0:=by omega
  match i,hi with
  | 0,_=>exact World.cell?_alloc_new _ _ _ _
  | 1,_=>exact World.cell?_alloc_new _ _ _ _
  | 2,_=>exact World.cell?_alloc_new _ _ _ _
 ·rcases List.mem_cons.1 hp with rfl | hp
  ·exact (hx.grew hg zQ1).mono zQ1 hg.size
  ·rcases List.mem_cons.1 hp with rfl | hp
   ·exact (hy.grew hg zQ1).mono zQ1 hg.size
   ·obtain rfl:p=z:=by simpa using hp
    exact (hz.grew hg zQ1).mono zQ1 hg.size
theorem zdk{w:World}{ops:Array Oper}{rest:List Oper}{o:Oper}{a:Act}{Q:Exit->Act->World->Prop}(hg:o.guard=none)(m x:Operand)(hop:o.op=Op.lookup 170 m x true)(B n:Nat)(ms:List zab)(hm:a.eval m=.map (some B))(h:MapIs w B n ms)(k:ByteArray)(hx:a.eval x=.string k)(hk:k.size<=1048576)(r:Option ByteArray)(hr:getP k ms=r)(hK:wpList Tryz.prog ops Q rest (a.put o.dst (.tuple #[.string (r.getD .empty),.bool r.isSome])) w):wpList Tryz.prog ops Q (o::rest) a w :=
 wp_look w hg m x hop B n ms hm h k hx hk (by rw[hr];exact hK)
theorem nodup_keys_perm{a b:List zab}(h:a.Perm b)(hn:(b.map (·.1)).Nodup):(a.map (·.1)).Nodup:=(h.map _).nodup_iff.2 hn
theorem props_cells(w:World)(p:zab)(t:TypeId):RowIn (w.alloc (.cells #[.string p.1,.string p.2] t)) w.heap.size (w.heap.size+1) (some ⟨w.heap.size,0,none⟩) 1 1 2 (fun i j=>zca ([p].getD i default) j):=by
 refine⟨⟨by simp,by omega,by unfold maxLen;omega⟩,fun _=>⟨w.heap.size,0,rfl,Nat.le_refl _,by omega,fun i hi j hj=>?_⟩⟩;obtain rfl:i=0:=by omega
 match j,hj with
 | 0,_=>exact World.cell?_alloc_new _ _ _ _
 | 1,_=>exact World.cell?_alloc_new _ _ _ _
end Go.Proofs.YtccobobnmpafbaaGreatDoor
namespace Go.Proofs.YtccobobnmpafbaaGreatDoor
open Go Go.RowKit
noncomputable def zb6 (l old new:List zab):List zab × Int:=(if zb5 l old new=0 then Classical.epsilon (fun R=>IsSort R (zbL l old++new)) else [],zb5 l old new)
theorem patchT_is{l old new R:List zab}(h:(zb5 l old new≠0/\R=[])\/(zb5 l old new=0/\IsSort R (zbL l old++new))):R=(zb6 l old new).1:=by
 unfold zb6
 rcases h with ⟨h1,h2⟩ | ⟨h1,h2⟩
 ·rw[if_neg h1];exact h2
 ·rw[if_pos h1];exact h2.unique (Classical.epsilon_spec (p:=fun R=>IsSort R (zbL l old++new)) ⟨R,h2⟩)
def T.len(t:T):Nat:=if t.lf=true then t.ts.length else t.ks.length
def zbJ(rest k:T)(o:OpE):T × Int :=
 if (zam o.path).2≠0 then (T.nilT,8)
 else match rest.at (zam o.path).1 with
 | none=>(T.nilT,5)
 | some x=>if x.lf≠k.lf then (T.nilT,7) else if (x.len:Int)≠o.pos then (T.nilT,8) else if k.ps≠o.old then (T.nilT,9)
  else zch rest (zam o.path).1 (.mk x.lf x.ps (x.ts++k.ts) (x.ks++k.ks))
def T.first(k:T)(i:Nat):T:=if k.lf=true then .mk true k.ps (k.ts.take i) k.ks else .mk false k.ps k.ts (k.ks.take i)
def T.second(k:T)(i:Nat)(new:List zab):T:=if k.lf=true then .mk true new (k.ts.drop i) [] else .mk false new [] (k.ks.drop i)
def zcW(rest k:T)(o:OpE):T × Int :=
 if o.pos < 0\/(k.len:Int) < o.pos then (T.nilT,8)
 else if (addT rest o.path (k.second o.pos.toNat o.new)).2≠0 then (T.nilT,(addT rest o.path (k.second o.pos.toNat o.new)).2)
 else addT (addT rest o.path (k.second o.pos.toNat o.new)).1 o.path (k.first o.pos.toNat)
noncomputable def zaX (n:T) (o:OpE):T × Int :=
 if o.kind=6/\o.path.length=0 then (T.nilT,6)
 else match n.at o.path with
 | none=>(T.nilT,5)
 | some k =>
  if o.kind=6 then (if (zb6 k.ps o.old o.new).2≠0 then (T.nilT,(zb6 k.ps o.old o.new).2) else zch n o.path (.mk k.lf (zb6 k.ps o.old o.new).1 k.ts k.ks))
  else if k.lf=false then (T.nilT,7)
  else if o.kind=7 then (if (zbt k.ts o.pos o.text).2≠0 then (T.nilT,(zbt k.ts o.pos o.text).2) else zch n o.path (.mk k.lf k.ps (zbt k.ts o.pos o.text).1 k.ks))
  else (if (zcp k.ts o.pos o.text).2≠0 then (T.nilT,(zcp k.ts o.pos o.text).2) else zch n o.path (.mk k.lf k.ps (zcp k.ts o.pos o.text).1 k.ks))
noncomputable def zcN (n:T) (o:OpE):T × Int :=
 if o.kind=1 then (if o.node.chk≠0 then (T.nilT,o.node.chk) else addT n o.path o.node)
 else if o.kind=4/\zaP o.new≠0 then (T.nilT,zaP o.new)
 else if (o.kind=2\/o.kind=3\/o.kind=4\/o.kind=5)/\(cutT n o.path).2.2≠0 then (T.nilT,(cutT n o.path).2.2)
 else if o.kind=2 then (if (cutT n o.path).2.1=o.node then ((cutT n o.path).1,0) else (T.nilT,9))
 else if o.kind=3 then zbJ (cutT n o.path).1 (cutT n o.path).2.1 o
 else if o.kind=4 then zcW (cutT n o.path).1 (cutT n o.path).2.1 o
 else if o.kind=5 then addT (cutT n o.path).1 o.dest (cutT n o.path).2.1
 else zaX n o
def zc0(p:PtE)(o:OpE):Bool:=(zcf p o 1).2 && zcJ p (zcf p o 1).1
noncomputable def staysT (s:SelE) (o:OpE):Bool:=!s.is || (zc0 s.a o && zc0 s.a (invT o).1 && zc0 s.f o && zc0 s.f (invT o).1 && decide ((invT o).2=0))
noncomputable def mayT (n:T) (s:SelE) (o:OpE):Int:=if n.chk≠0 then n.chk else if n.lf=true then 7 else if zaT n s≠0 then zaT n s else zba o
noncomputable def zai (n:T) (s:SelE) (o:OpE):T × SelE × Int :=
 if mayT n s o≠0 then (T.nilT,SelE.nil,mayT n s o)
 else if o.kind=9 then (if zcK s o.src=false then (T.nilT,SelE.nil,9) else if zaT n o.dst≠0 then (T.nilT,SelE.nil,zaT n o.dst) else (n,o.dst,0))
 else if (zcN n o).2≠0 then (T.nilT,SelE.nil,(zcN n o).2)
 else if staysT s o=false then (T.nilT,SelE.nil,10)
 else ((zcN n o).1,s,0)
end Go.Proofs.YtccobobnmpafbaaGreatDoor
