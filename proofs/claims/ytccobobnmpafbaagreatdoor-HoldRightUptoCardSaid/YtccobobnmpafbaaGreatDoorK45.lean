/- WHAT COMES IN, READ AS DATA, LIES IN MEMORY AS A LOCATED TREE, no greater than its bulk. -/
import Derived.Test.YtccobobnmpafbaaGreatDoorK01
import Derived.Test.YtccobobnmpafbaaGreatDoorRows
import Derived.Deep.Slices
import Derived.OpenShut
import Derived.ProofKit
import Derived.Test.YtccobobnmpafbaaGreatDoorK02
import Derived.Test.YtccobobnmpafbaaGreatDoorK03
import Derived.Test.YtccobobnmpafbaaGreatDoorK14
import Derived.Test.YtccobobnmpafbaaGreatDoorK05
import Derived.JoinedCond
set_option maxRecDepth 100000
set_option maxHeartbeats 100000000
namespace Go.Proofs.YtccobobnmpafbaaGreatDoor
open Go Go.RowKit Go.Deep
section
variable {H:Type} {enc:TypeId × Value->H} {P:Program} {w:World} {base:Nat} {spare:Nat->Bool} {held:Bool}
theorem addr_plain{w:World}{a:Addr}{v:Value}(h:w.cell? a=some v):a.spot=none/\a.block < w.heap.size:=by
 unfold World.cell? at h
 split at h
 ·rename_i hb
  split at h
  ·cases h
  ·rename_i hs
   refine⟨by simpa using hs,?_⟩
   rcases Nat.lt_or_ge a.block w.heap.size with h1 | h1
   ·exact h1
   ·rw[Array.getElem?_eq_none h1] at hb;cases hb
 ·cases h
theorem propsBulk_sum(l:List zab):zcb l=(l.map fun p:zab=>1+p.1.size+p.2.size).sum:=by
 induction l with
 | nil=>rfl
 | cons p r ih=>simp[zcb,ih]
theorem bulkAll_sum(l:List NT):T.bulkAll (l.map NT.er)=(l.map fun n:NT=>n.er.bulk).sum:=by
 induction l with
 | nil=>rfl
 | cons p r ih=>simp[T.bulkAll,ih]
theorem sum_ones(l:List Int):(l.map fun _:Int=>1).sum=l.length:=by
 induction l with
 | nil=>rfl
 | cons p r ih=>rw[List.map_cons,List.sum_cons,ih,List.length_cons];omega
theorem getD_lt{α:Type}[Inhabited α](l:List α)(i:Nat)(h:i < l.length):l.getD i default=l[i]:=by
 rw[List.getD_eq_getElem?_getD,List.getElem?_eq_getElem h];rfl
theorem open_list{α:Type}[Inhabited α](cells:α->List Value)(Q:α->DataW H->Prop){t e:TypeId}{k fuel:Nat}{cs:List Value}{x:DataW H × List MemPlace}(ht:P.underlying t=some (.slice e))(hk:P.cellsOf e=k)(hk0:0 < k)(hel:∀ m cs y,m < fuel->DataW.trod enc P w base spare held m e cs=some y->∃ r,cs=cells r/\Q r y.1)(h:DataW.trod enc P w base spare held fuel t cs=some x) :
  ∃(a:Option Addr) (c:Nat) (l:List α) (D:List (DataW H)),cs=[.slice a l.length c]/\((x.1=.nil/\D=[])\/∃ sp,x.1=.slice D sp)/\D.length=l.length /\
   (∀ i,i < l.length->∃ d,D[i]? = some d/\Q (l.getD i default) d) /\
   RowIn w 0 w.heap.size a l.length c k (fun i j=>(cells (l.getD i default)).getD j undef):=by
 rcases DataW.trod_slice ht h with ⟨rfl,rfl⟩ | ⟨a,len,cap,elems,rest,n,hf,rfl,rfl,hb,hl,hm,hlen,hel2,_,_⟩
 ·refine⟨none,0,[],[],rfl,Or.inl ⟨rfl,rfl⟩,rfl,fun i hi=>absurd hi (by simp),⟨⟨fun _=>⟨rfl,rfl⟩,Nat.le_refl _,Nat.zero_le _⟩,fun h=>absurd h (by simp)⟩⟩
 ·have hone:∀ i,i < len->∃ r,w.cells? base (a.add (i * k)) k=some (cells r)/\∃ y,elems[i]? = some y/\Q r y.1:=by
   intro i hi;have h1:=hel2 i hi;rw[hk,List.getElem?_eq_getElem (by omega)] at h1;obtain⟨cs',h2,h3⟩:=Option.bind_eq_some_iff.1 h1;obtain⟨r,hr,hq⟩:=hel n cs' _ (by omega) h3;exact⟨r,by rw[h2,hr],_,List.getElem?_eq_getElem (by omega),hq⟩
  obtain⟨f,hf2⟩:=choose_lt (α:=α) hone
  have hget:∀ i,i < len->((List.range len).map f).getD i default=f i:=by
   intro i hi;simp[List.getD,hi]
  refine⟨some a,cap,(List.range len).map f,elems.map (·.1),by simp,Or.inr ⟨_,rfl⟩,by simp[hlen],?_,⟨⟨by simp,by simpa using hl,hm⟩,?_⟩⟩
  ·intro i hi;have hi':i < len:=by simpa using hi
   obtain⟨_,y,hy,hq⟩:=hf2 i hi';exact⟨y.1,by simp[hy],by rw[hget i hi'];exact hq⟩
  ·intro hpos;have hpos':0 < len:=by simpa using hpos
   have key:∀ i,i < len->∀ j,j < k->w.cell? ((a.add (i * k)).add j)=some ((cells (f i)).getD j undef):=by
    intro i hi j hj;obtain⟨hc,_⟩:=hf2 i hi;obtain⟨_,hln,hall⟩:=World.cells?_some hc;rw[hall j hj,List.getElem?_eq_getElem (by omega)]
    simp[List.getD,List.getElem?_eq_getElem (show j < (cells (f i)).length by omega)]
   have h00:=key 0 hpos' 0 hk0;have hz:(a.add (0 * k)).add 0=a:=by simp[Addr.add]
   rw[hz] at h00;obtain⟨hsp,hlt⟩:=addr_plain h00;obtain⟨b,o,sp⟩:=a;simp only at hsp hlt;subst hsp;refine⟨b,o,rfl,Nat.zero_le _,hlt,fun i hi j hj=>?_⟩;have hi':i < len:=by simpa using hi
   have:=key i hi' j hj;rw[add_add] at this
   show w.cell? _=some ((cells (((List.range len).map f).getD i default)).getD j undef)
   rw[hget i hi',<- this];unfold Addr.add
   split
   ·rename_i h0;rw[show o+i * k+j=o by omega]
   ·rw[Nat.add_assoc]
theorem bulkAll_ge{α:Type}[Inhabited α](f:α->Nat):∀(l:List α) (D:List (DataW H)),D.length=l.length->(∀ i,i < l.length->∃ d,D[i]? = some d/\f (l.getD i default)<=Rows.uptoBulk d)->(l.map f).sum<=Rows.uptoBulkAll D:=by
 intro l
 induction l with
 | nil=>intro D _ _;simp
 | cons a r ih =>
  intro D hD h
  match D,hD with
  | d::D',hD =>
   obtain⟨d0,h0,h1⟩:=h 0 (by simp)
   simp at h0
   subst h0
   have h2:=ih D' (by simpa using hD) (fun i hi=>by
    obtain⟨d1,h3,h4⟩:=h (i+1) (by simpa using hi)
    exact⟨d1,by simpa using h3,by simpa using h4⟩)
   simp only[List.map_cons,List.sum_cons,Rows.uptoBulkAll];have h1':f a<=Rows.uptoBulk d:=by simpa using h1
   omega
end
theorem cellsProp:Tryz.prog.cellsOf 101=2:=by kernel_rfl
theorem cellsRune:Tryz.prog.cellsOf 21=1:=by kernel_rfl
theorem zaA:Tryz.prog.cellsOf 26=4:=by kernel_rfl
theorem cellsBool:Tryz.prog.cellsOf 4=1:=by kernel_rfl
theorem cellsString:Tryz.prog.cellsOf 9=1:=by kernel_rfl
theorem zaL:Tryz.prog.cellsOf 22=1:=by kernel_rfl
theorem cellsRunes:Tryz.prog.cellsOf 23=1:=by kernel_rfl
theorem cellsNodes:Tryz.prog.cellsOf 24=1:=by kernel_rfl
section
variable {H:Type} {enc:TypeId × Value->H} {w:World} {base:Nat} {spare:Nat->Bool} {held:Bool}
def propCells(p:zab):List Value:=[.string p.1,.string p.2]
theorem open_prop{m:Nat}{cs:List Value}{y:DataW H × List MemPlace}(h:DataW.trod enc Tryz.prog w base spare held m 101 cs=some y) :
  ∃ p:zab,cs=propCells p/\1+p.1.size+p.2.size<=Rows.uptoBulk y.1:=by
 obtain⟨xs,n,_,rfl,hlen,hxs,hf⟩:=DataW.trod_struct Tryz.underlying101 h;rw[cellsProp] at hlen
 match cs,hlen with
 | [c0,c1],_ =>
  match xs,hxs with
  | [y0,y1],_ =>
   have h0:DataW.trod enc Tryz.prog w base spare held n 9 [c0]=some y0:=by have:=hf 0 _ rfl;simpa [cellsString] using this
   have h1:DataW.trod enc Tryz.prog w base spare held n 9 [c1]=some y1:=by have:=hf 1 _ rfl;simpa [cellsString] using this
   obtain⟨s0,e0,rfl,_⟩:=DataW.trod_string Tryz.underlying9 h0;obtain⟨s1,e1,rfl,_⟩:=DataW.trod_string Tryz.underlying9 h1;simp only[List.cons.injEq,and_true] at e0 e1;subst e0 e1;refine⟨(s0,s1),rfl,?_⟩;have l0:s0.data.toList.length=s0.size:=by rw[Array.length_toList];rfl
   have l1:s1.data.toList.length=s1.size:=by rw[Array.length_toList];rfl
   simp only[List.map_cons,List.map_nil,Rows.uptoBulk,Rows.uptoBulkAll];omega
theorem open_props{m:Nat}{cs:List Value}{x:DataW H × List MemPlace}(h:DataW.trod enc Tryz.prog w base spare held m 22 cs=some x) :
  ∃ a c ps,cs=[.slice a ps.length c]/\PropsIn w 0 w.heap.size a c ps/\zcb ps<=Rows.uptoBulk x.1:=by
 obtain⟨a,c,l,D,rfl,hx,hD,hq,hrow⟩:=open_list propCells (fun p d=>1+p.1.size+p.2.size<=Rows.uptoBulk d) Tryz.underlying22 cellsProp (by decide) (fun m cs y _ h=>open_prop h) h;refine⟨a,c,l,rfl,?_,?_⟩
 ·refine⟨hrow.1,fun hn=>?_⟩;obtain⟨b,o,h1,h2,h3,hc⟩:=hrow.2 hn;refine⟨b,o,h1,h2,h3,fun i hi j hj=>?_⟩;rw[hc i hi j hj]
  match j,hj with
  | 0,_=>rfl
  | 1,_=>rfl
 ·have hs:=bulkAll_ge (fun p:zab=>1+p.1.size+p.2.size) l D hD hq;rw[propsBulk_sum]
  rcases hx with ⟨hx,rfl⟩ | ⟨sp,hx⟩
  ·have:l=[]:=List.length_eq_zero_iff.1 (by simpa using hD.symm);subst this;simp
  ·rw[hx];simp only[Rows.uptoBulk];omega
theorem open_runes{m:Nat}{cs:List Value}{x:DataW H × List MemPlace}(h:DataW.trod enc Tryz.prog w base spare held m 23 cs=some x) :
  ∃ a c ts,cs=[.slice a ts.length c]/\RunesIn w 0 w.heap.size a c ts/\ts.length<=Rows.uptoBulk x.1:=by
 obtain⟨a,c,l,D,rfl,hx,hD,hq,hrow⟩:=open_list (fun r:Int=>[Value.int .i32 r]) (fun r d=>(-2147483648<=r/\r<=2147483647)/\1<=Rows.uptoBulk d) Tryz.underlying23 cellsRune (by decide) (fun m cs y _ h=>by
  obtain⟨r,rfl,rfl,hw⟩:=DataW.trod_int Tryz.underlying21 h;refine⟨r,rfl,?_,by simp[Rows.uptoBulk]⟩;have hmin:IntKind.i32.min=-2147483648:=rfl;have hmax:IntKind.i32.max=2147483647:=rfl;simp only[Lit.wf,Bool.and_eq_true,decide_eq_true_eq] at hw
  omega) h
 refine⟨a,c,l,rfl,⟨?_,?_⟩,?_⟩
 ·refine⟨hrow.1,fun hn=>?_⟩;obtain⟨b,o,h1,h2,h3,hc⟩:=hrow.2 hn;refine⟨b,o,h1,h2,h3,fun i hi j hj=>?_⟩;rw[hc i hi j hj];obtain rfl:j=0:=by omega
  rfl
 ·intro r hr;obtain⟨i,hi,rfl⟩:=List.getElem_of_mem hr;obtain⟨d,_,hd,_⟩:=hq i hi
  simpa [List.getD,List.getElem?_eq_getElem hi] using hd
 ·have hs:=bulkAll_ge (fun _:Int=>1) l D hD (fun i hi=>by obtain⟨d,h1,_,h3⟩:=hq i hi;exact⟨d,h1,h3⟩);rw[sum_ones] at hs
  rcases hx with ⟨hx,rfl⟩ | ⟨sp,hx⟩
  ·have:l=[]:=List.length_eq_zero_iff.1 (by simpa using hD.symm);subst this;simp
  ·rw[hx];simp only[Rows.uptoBulk];omega
def nodeCells(n:NT):List Value:=[.bool n.lf,.slice n.pa n.ps.length n.pc,.slice n.ta n.ts.length n.tc,.slice n.ka n.ks.length n.kc]
theorem open_node(m:Nat):∀(cs:List Value) (y:DataW H × List MemPlace),DataW.trod enc Tryz.prog w base spare held m 26 cs=some y ->
  ∃ n:NT,cs=nodeCells n/\n.Ok w/\n.er.bulk<=Rows.uptoBulk y.1:=by
 induction m using Nat.strongRecOn with
 | ind m ih =>
 intro cs y h;obtain⟨xs,f,hfu,rfl,hlen,hxs,hf⟩:=DataW.trod_struct Tryz.underlying26 h;rw[zaA] at hlen
 match cs,hlen with
 | [c0,c1,c2,c3],_ =>
  match xs,hxs with
  | [y0,y1,y2,y3],_ =>
   have h0:DataW.trod enc Tryz.prog w base spare held f 4 [c0]=some y0:=by have:=hf 0 _ rfl;simpa [cellsBool] using this
   have h1:DataW.trod enc Tryz.prog w base spare held f 22 [c1]=some y1:=by have:=hf 1 _ rfl;simpa [zaL] using this
   have h2:DataW.trod enc Tryz.prog w base spare held f 23 [c2]=some y2:=by have:=hf 2 _ rfl;simpa [cellsRunes] using this
   have h3:DataW.trod enc Tryz.prog w base spare held f 24 [c3]=some y3:=by have:=hf 3 _ rfl;simpa [cellsNodes] using this
   obtain⟨lf,e0,rfl⟩:=DataW.trod_bool Tryz.underlying4 h0;obtain⟨pa,pc,ps,e1,hp,hpb⟩:=open_props h1;obtain⟨ta,tc,ts,e2,hr,hrb⟩:=open_runes h2;obtain⟨ka,kc,ks,D,e3,hx,hD,hq,hrow⟩:=open_list nodeCells (fun n d=>n.Ok w/\n.er.bulk<=Rows.uptoBulk d) Tryz.underlying24 zaA (by decide) (fun m' cs y hm' h=>ih m' (by omega) cs y h) h3;simp only[List.cons.injEq,and_true] at e0 e1 e2 e3;subst e0 e1 e2 e3;refine⟨.mk lf pa pc ps ta tc ts ka kc ks,rfl,NT.Ok.of hp hr ⟨?_,?_⟩,?_⟩
   ·refine⟨hrow.1,fun hn=>?_⟩;obtain⟨b,o,h1,h2,h3,hc⟩:=hrow.2 hn;refine⟨b,o,h1,h2,h3,fun i hi j hj=>?_⟩;refine (hc i hi j hj).trans ?_
    match j,hj with
    | 0,_=>rfl
    | 1,_=>rfl
    | 2,_=>rfl
    | 3,_=>rfl
   ·intro k hk;obtain⟨i,hi,rfl⟩:=List.getElem_of_mem hk;obtain⟨d,_,hd,_⟩:=hq i hi;rw[getD_lt ks i hi] at hd;exact hd
   ·have hs:=bulkAll_ge (fun n:NT=>n.er.bulk) ks D hD (fun i hi=>by obtain⟨d,h1,_,h3⟩:=hq i hi;exact⟨d,h1,h3⟩)
    have hkb:T.bulkAll (ks.map NT.er)<=Rows.uptoBulk y3.1:=by
     rw[bulkAll_sum]
     rcases hx with ⟨hx,rfl⟩ | ⟨sp,hx⟩
     ·have:ks=[]:=List.length_eq_zero_iff.1 (by simpa using hD.symm);subst this;simp
     ·rw[hx];simp only[Rows.uptoBulk];omega
    rw[NT.er_eq];simp only[T.bulk_eq,T.ps_mk,T.ts_mk,T.ks_mk,NT.ps_mk,NT.ts_mk,NT.ks_mk,List.map_cons,List.map_nil,Rows.uptoBulk,Rows.uptoBulkAll];omega
end
end Go.Proofs.YtccobobnmpafbaaGreatDoor
namespace Go.Proofs.YtccobobnmpafbaaGreatDoor
open Go Go.RowKit Go.ChangeShapes Go.WideShapes Go.ChangeAt
theorem zaz:Tryz.prog.cellsOf 3=1:=by kernel_rfl
section
variable {H:Type} {enc:TypeId × Value->H} {w:World} {base:Nat} {spare:Nat->Bool} {held:Bool}
theorem open_ints{m:Nat}{cs:List Value}{x:DataW H × List MemPlace}(h:DataW.trod enc Tryz.prog w base spare held m 27 cs=some x) :
  ∃ a c ts,cs=[.slice a ts.length c]/\IntsIn w 0 w.heap.size a c ts/\ts.length<=Rows.uptoBulk x.1/\∀ r∈ts,-9223372036854775808<=r/\r<=9223372036854775807:=by
 obtain⟨a,c,l,D,rfl,hx,hD,hq,hrow⟩:=open_list (fun r:Int=>[Value.int .i64 r]) (fun r d=>(-9223372036854775808<=r/\r<=9223372036854775807)/\1<=Rows.uptoBulk d) Tryz.underlying27 zaz (by decide) (fun m cs y _ h=>by
  obtain⟨r,rfl,rfl,hw⟩:=DataW.trod_int Tryz.underlying3 h;refine⟨r,rfl,?_,by simp[Rows.uptoBulk]⟩;have hmin:IntKind.i64.min=-9223372036854775808:=rfl;have hmax:IntKind.i64.max=9223372036854775807:=rfl;simp only[Lit.wf,Bool.and_eq_true,decide_eq_true_eq] at hw
  omega) h
 refine⟨a,c,l,rfl,?_,?_,?_⟩
 ·refine⟨hrow.1,fun hn=>?_⟩;obtain⟨b,o,h1,h2,h3,hc⟩:=hrow.2 hn;refine⟨b,o,h1,h2,h3,fun i hi j hj=>?_⟩;rw[hc i hi j hj];obtain rfl:j=0:=by omega
  rfl
 ·have hs:=bulkAll_ge (fun _:Int=>1) l D hD (fun i hi=>by obtain⟨d,h1,_,h3⟩:=hq i hi;exact⟨d,h1,h3⟩);rw[sum_ones] at hs
  rcases hx with ⟨hx,rfl⟩ | ⟨sp,hx⟩
  ·have:l=[]:=List.length_eq_zero_iff.1 (by simpa using hD.symm);subst this;simp
  ·rw[hx];simp only[Rows.uptoBulk];omega
 ·intro r hr;obtain⟨i,hi,rfl⟩:=List.getElem_of_mem hr;obtain⟨d,_,hd,_⟩:=hq i hi
  simpa [List.getD,List.getElem?_eq_getElem hi] using hd
end
end Go.Proofs.YtccobobnmpafbaaGreatDoor
namespace Go.Proofs.YtccobobnmpafbaaGreatDoor
open Go Go.RowKit Go.ChangeShapes Go.WideShapes Go.ChangeAt
theorem zaJ:Tryz.prog.cellsOf 27=1:=by kernel_rfl
theorem zaK:Tryz.prog.cellsOf 29=2:=by kernel_rfl
theorem cellsRange:Tryz.prog.cellsOf 31=4:=by kernel_rfl
section
variable {H:Type} {enc:TypeId × Value->H} {w:World} {base:Nat} {spare:Nat->Bool} {held:Bool}
theorem zbX{m:Nat}{c:Value}{y:DataW H × List MemPlace}(h:DataW.trod enc Tryz.prog w base spare held m 3 [c]=some y):∃ x:Int,c=.int .i64 x:=by
 obtain⟨s4,e4,_,_⟩:=DataW.trod_int Tryz.underlying3 h;simp only[List.cons.injEq,and_true] at e4;exact⟨s4,e4⟩
theorem zbY{m:Nat}{cs:List Value}{y:DataW H × List MemPlace}(h:DataW.trod enc Tryz.prog w base spare held m 29 cs=some y) :
  ∃ p:PtL,cs=[.slice p.p.a p.p.l.length p.p.c,.int .i64 p.o]/\p.In w 0 w.heap.size/\p.p.l.length<=Rows.uptoBulk y.1:=by
 obtain⟨xs,n,_,rfl,hlen,hxs,hf⟩:=DataW.trod_struct Tryz.underlying29 h;rw[zaK] at hlen
 match cs,hlen with
 | [c0,c1],_ =>
  match xs,hxs with
  | [y0,y1],_ =>
   have h0:DataW.trod enc Tryz.prog w base spare held n 27 [c0]=some y0:=by have:=hf 0 _ rfl;simpa [zaJ] using this
   have h1:DataW.trod enc Tryz.prog w base spare held n 3 [c1]=some y1:=by have:=hf 1 _ rfl;simpa [zaz] using this
   obtain⟨a,c,l,e0,hl,hb,_⟩:=open_ints h0;obtain⟨o,e1⟩:=zbX h1;simp only[List.cons.injEq,and_true] at e0;subst e0 e1;refine⟨⟨⟨a,c,l⟩,o⟩,rfl,hl,?_⟩;simp only[List.map_cons,List.map_nil,Rows.uptoBulk,Rows.uptoBulkAll];omega
end
end Go.Proofs.YtccobobnmpafbaaGreatDoor
namespace Go.Proofs.YtccobobnmpafbaaGreatDoor
open Go Go.RowKit Go.ChangeShapes Go.WideShapes Go.ChangeAt
theorem cellsSel:Tryz.prog.cellsOf 33=5:=by kernel_rfl
theorem cellsOp:Tryz.prog.cellsOf 35=21:=by kernel_rfl
section
variable {H:Type} {enc:TypeId × Value->H} {w:World} {base:Nat} {spare:Nat->Bool} {held:Bool}
theorem open_sel{m:Nat}{cs:List Value}{y:DataW H × List MemPlace}(h:DataW.trod enc Tryz.prog w base spare held m 33 cs=some y) :
  ∃ s:SelL,cs=s.cells/\s.In w 0 w.heap.size/\1+s.a.p.l.length+s.f.p.l.length<=Rows.uptoBulk y.1:=by
 obtain⟨xs,n,_,rfl,hlen,hxs,hf⟩:=DataW.trod_struct Tryz.underlying33 h;rw[cellsSel] at hlen
 match cs,hlen with
 | [c0,c1,c2,c3,c4],_ =>
  match xs,hxs with
  | [y0,y1],_ =>
   have h0:DataW.trod enc Tryz.prog w base spare held n 4 [c0]=some y0:=by have:=hf 0 _ rfl;simpa [cellsBool] using this
   have h1:DataW.trod enc Tryz.prog w base spare held n 31 [c1,c2,c3,c4]=some y1:=by have:=hf 1 _ rfl;simpa [cellsRange] using this
   obtain⟨b,e0,rfl⟩:=DataW.trod_bool Tryz.underlying4 h0;obtain⟨zs,k,_,rfl,_,hz,hzf⟩:=DataW.trod_struct Tryz.underlying31 h1
   match zs,hz with
   | [z0,z1],_ =>
    have k0:DataW.trod enc Tryz.prog w base spare held k 29 [c1,c2]=some z0:=by have:=hzf 0 _ rfl;simpa [zaK] using this
    have k1:DataW.trod enc Tryz.prog w base spare held k 29 [c3,c4]=some z1:=by have:=hzf 1 _ rfl;simpa [zaK] using this
    obtain⟨pa,e6,ha,hab⟩:=zbY k0;obtain⟨pf,e7,hf',hfb⟩:=zbY k1;simp only[List.cons.injEq,and_true] at e0 e6 e7;obtain⟨e6,e6'⟩:=e6;obtain⟨e7,e7'⟩:=e7;subst e0 e6 e6' e7 e7';refine⟨⟨b,pa,pf⟩,rfl,⟨ha,hf'⟩,?_⟩;simp only[List.map_cons,List.map_nil,Rows.uptoBulk,Rows.uptoBulkAll];omega
theorem open_op{m:Nat}{cs:List Value}{y:DataW H × List MemPlace}(h:DataW.trod enc Tryz.prog w base spare held m 35 cs=some y) :
  ∃ o:OpL,cs=o.cells/\o.In w 0 w.heap.size/\1+o.path.l.length+o.dest.l.length+o.node.er.bulk+zcb o.old+zcb o.new+o.text.length<=Rows.uptoBulk y.1:=by
 obtain⟨xs,n,_,rfl,hlen,hxs,hf⟩:=DataW.trod_struct Tryz.underlying35 h;rw[cellsOp] at hlen
 match cs,hlen with
 | [c0,c1,c2,c3,c4,c5,c6,c7,c8,c9,c10,c11,c12,c13,c14,c15,c16,c17,c18,c19,c20],_ =>
  match xs,hxs with
  | [y0,y1,y2,y3,y4,y5,y6,y7,y8,y9],_ =>
   have h0:DataW.trod enc Tryz.prog w base spare held n 3 [c0]=some y0:=by have:=hf 0 _ rfl;simpa [zaz] using this
   have h1:DataW.trod enc Tryz.prog w base spare held n 27 [c1]=some y1:=by have:=hf 1 _ rfl;simpa [zaz,zaJ] using this
   have h2:DataW.trod enc Tryz.prog w base spare held n 27 [c2]=some y2:=by have:=hf 2 _ rfl;simpa [zaz,zaJ] using this
   have h3:DataW.trod enc Tryz.prog w base spare held n 3 [c3]=some y3:=by have:=hf 3 _ rfl;simpa [zaz,zaJ] using this
   have h4:DataW.trod enc Tryz.prog w base spare held n 26 [c4,c5,c6,c7]=some y4:=by have:=hf 4 _ rfl;simpa [zaz,zaJ,zaA] using this
   have h5:DataW.trod enc Tryz.prog w base spare held n 22 [c8]=some y5:=by have:=hf 5 _ rfl;simpa [zaz,zaJ,zaA,zaL] using this
   have h6:DataW.trod enc Tryz.prog w base spare held n 22 [c9]=some y6:=by have:=hf 6 _ rfl;simpa [zaz,zaJ,zaA,zaL] using this
   have h7:DataW.trod enc Tryz.prog w base spare held n 23 [c10]=some y7:=by have:=hf 7 _ rfl;simpa [zaz,zaJ,zaA,zaL,cellsRunes] using this
   have h8:DataW.trod enc Tryz.prog w base spare held n 33 [c11,c12,c13,c14,c15]=some y8:=by have:=hf 8 _ rfl;simpa [zaz,zaJ,zaA,zaL,cellsRunes,cellsSel] using this
   have h9:DataW.trod enc Tryz.prog w base spare held n 33 [c16,c17,c18,c19,c20]=some y9:=by have:=hf 9 _ rfl;simpa [zaz,zaJ,zaA,zaL,cellsRunes,cellsSel] using this
   obtain⟨i0,e0⟩:=zbX h0;obtain⟨pa,pc,pl,e1,hp,hpb,_⟩:=open_ints h1;obtain⟨da,dc,dl,e2,hd,hdb,_⟩:=open_ints h2;obtain⟨i3,e3⟩:=zbX h3;obtain⟨nd,e4,hn,hnb⟩:=open_node _ _ _ h4;obtain⟨oa,oc,ol,e5,ho,hob⟩:=open_props h5;obtain⟨wa,wc,wl,e6,hw,hwb⟩:=open_props h6;obtain⟨xa,xc,xl,e7,hx,hxb⟩:=open_runes h7;obtain⟨s1,e8,hs1,_⟩:=open_sel h8;obtain⟨s2,e9,hs2,_⟩:=open_sel h9;unfold nodeCells at e4;unfold SelL.cells at e8 e9;simp only[List.cons.injEq,and_true] at e0 e1 e2 e3 e4 e5 e6 e7 e8 e9;obtain⟨e4,e4b,e4c,e4d⟩:=e4;obtain⟨e8,e8b,e8c,e8d,e8e⟩:=e8;obtain⟨e9,e9b,e9c,e9d,e9e⟩:=e9;subst e0 e1 e2 e3 e4 e4b e4c e4d e5 e6 e7 e8 e8b e8c e8d e8e e9 e9b e9c e9d e9e;refine⟨⟨i0,⟨pa,pc,pl⟩,⟨da,dc,dl⟩,i3,nd,oa,oc,ol,wa,wc,wl,xa,xc,xl,s1,s2⟩,rfl,⟨⟨hp,hd⟩,hn,ho,hw,hx,hs1,hs2⟩,?_⟩;simp only[List.map_cons,List.map_nil,Rows.uptoBulk,Rows.uptoBulkAll];omega
theorem open_opV{fuel:Nat}{cs:Array Value}{x:DataW H × List MemPlace}(h:DataW.trod enc Tryz.prog w base spare held fuel 35 (Value.agg cs).cells.toList=some x) :
  ∃ o:OpL,Value.agg cs=o.val/\o.In w 0 w.heap.size/\1+o.path.l.length+o.dest.l.length+o.node.er.bulk+zcb o.old+zcb o.new+o.text.length<=Rows.uptoBulk x.1:=by
 obtain⟨r,hc,hr,hb⟩:=open_op h;refine⟨r,?_,hr,hb⟩;obtain⟨l⟩:=cs;simp only[Value.cells] at hc;subst hc
 rfl
end
end Go.Proofs.YtccobobnmpafbaaGreatDoor
namespace Go.Proofs.YtccobobnmpafbaaGreatDoor
open Go Go.RowKit Go.ChangeShapes Go.WideShapes Go.ChangeAt
theorem cellsRef:Tryz.prog.cellsOf 46=11:=by kernel_rfl
section
variable {H:Type} {enc:TypeId × Value->H} {w:World} {base:Nat} {spare:Nat->Bool} {held:Bool}
theorem open_ref{m:Nat}{cs:List Value}{y:DataW H × List MemPlace}(h:DataW.trod enc Tryz.prog w base spare held m 46 cs=some y) :
  ∃ r:RefL,cs=r.cells/\r.In w 0 w.heap.size/\1+(r.path.l.length+r.pt.p.l.length+r.a.p.l.length+r.f.p.l.length)<=Rows.uptoBulk y.1:=by
 obtain⟨xs,n,_,rfl,hlen,hxs,hf⟩:=DataW.trod_struct Tryz.underlying46 h;rw[cellsRef] at hlen
 match cs,hlen with
 | [c0,c1,c2,c3,c4,c5,c6,c7,c8,c9,c10],_ =>
  match xs,hxs with
  | [y0,y1,y2,y3,y4,y5,y6],_ =>
   have h0:DataW.trod enc Tryz.prog w base spare held n 3 [c0]=some y0:=by have:=hf 0 _ rfl;simpa [zaz] using this
   have h1:DataW.trod enc Tryz.prog w base spare held n 3 [c1]=some y1:=by have:=hf 1 _ rfl;simpa [zaz] using this
   have h2:DataW.trod enc Tryz.prog w base spare held n 3 [c2]=some y2:=by have:=hf 2 _ rfl;simpa [zaz] using this
   have h3:DataW.trod enc Tryz.prog w base spare held n 4 [c3]=some y3:=by have:=hf 3 _ rfl;simpa [cellsBool] using this
   have h4:DataW.trod enc Tryz.prog w base spare held n 27 [c4]=some y4:=by have:=hf 4 _ rfl;simpa [zaJ] using this
   have h5:DataW.trod enc Tryz.prog w base spare held n 29 [c5,c6]=some y5:=by have:=hf 5 _ rfl;simpa [zaK] using this
   have h6:DataW.trod enc Tryz.prog w base spare held n 31 [c7,c8,c9,c10]=some y6:=by have:=hf 6 _ rfl;simpa [cellsRange] using this
   obtain⟨i0,e0⟩:=zbX h0;obtain⟨i1,e1⟩:=zbX h1;obtain⟨i2,e2⟩:=zbX h2;obtain⟨b3,e3,rfl⟩:=DataW.trod_bool Tryz.underlying4 h3;obtain⟨a,c,l,e4,hl,hb,_⟩:=open_ints h4;obtain⟨p,e5,hp,hpb⟩:=zbY h5;obtain⟨zs,k,_,rfl,_,hz,hzf⟩:=DataW.trod_struct Tryz.underlying31 h6
   match zs,hz with
   | [z0,z1],_ =>
    have k0:DataW.trod enc Tryz.prog w base spare held k 29 [c7,c8]=some z0:=by have:=hzf 0 _ rfl;simpa [zaK] using this
    have k1:DataW.trod enc Tryz.prog w base spare held k 29 [c9,c10]=some z1:=by have:=hzf 1 _ rfl;simpa [zaK] using this
    obtain⟨pa,e6,ha,hab⟩:=zbY k0;obtain⟨pf,e7,hf',hfb⟩:=zbY k1;simp only[List.cons.injEq,and_true] at e3 e4 e5 e6 e7;obtain⟨e5,e5'⟩:=e5;obtain⟨e6,e6'⟩:=e6;obtain⟨e7,e7'⟩:=e7;subst e0 e1 e2 e3 e4 e5 e5' e6 e6' e7 e7';refine⟨⟨i0,i1,i2,b3,⟨a,c,l⟩,p,pa,pf⟩,rfl,⟨hl,hp,ha,hf'⟩,?_⟩;simp only[List.map_cons,List.map_nil,Rows.uptoBulk,Rows.uptoBulkAll];omega
theorem open_refV{fuel:Nat}{cs:Array Value}{x:DataW H × List MemPlace}(h:DataW.trod enc Tryz.prog w base spare held fuel 46 (Value.agg cs).cells.toList=some x) :
  ∃ r:RefL,Value.agg cs=r.val/\r.In w 0 w.heap.size/\1+(r.path.l.length+r.pt.p.l.length+r.a.p.l.length+r.f.p.l.length)<=Rows.uptoBulk x.1:=by
 obtain⟨r,hc,hr,hb⟩:=open_ref h;refine⟨r,?_,hr,hb⟩;obtain⟨l⟩:=cs;simp only[Value.cells] at hc;subst hc
 rfl
end
end Go.Proofs.YtccobobnmpafbaaGreatDoor
namespace Go.Proofs.YtccobobnmpafbaaGreatDoor
open Go Go.RowKit Go.ChangeShapes Go.WideShapes Go.ChangeAt
section
variable {H:Type} {enc:TypeId × Value->H} {P:Program}
theorem trodAll_grew(hl:laidOutB P=true){W W':World}(hb:Below W.heap.size W W'):∀(ts:List TypeId) (vs:List Value) (ds:List (DataW H)) (ps:List MemPlace),
  (∀ t∈ts,P.readableRec t=true/\t < P.types.size)->DataW.TrodAll enc P W 0 (fun _=>true) true ts vs ds ps->(∀ x∈ps,x.block < W.heap.size) ->
  DataW.TrodAll enc P W' 0 (fun b=>decide (b < W.heap.size)) true ts vs ds ps:=by
 intro ts
 induction ts with
 | nil =>
  intro vs ds ps _ h _
  match vs,ds,h with
  | [],[],h=>exact h
 | cons t ts ih =>
  intro vs ds ps ht h hlt
  match vs,ds,h with
  | v::vs,d::ds,⟨p,q,h1,h2,hpq⟩ =>
   subst hpq;have hrt:=ht t (by simp);exact⟨p,q,Below.trod hl hrt.1 hrt.2 h1 hb (fun x hx=>hlt x (by simp[hx])),ih vs ds q (fun t h=>ht t (by simp[h])) h2 (fun x hx=>hlt x (by simp[hx])),rfl⟩
theorem post_law{f:Func}{s:ChangeSpec}{W W':World}{args:Array Value}{ds gs:List (DataW H)}{before:List MemPlace}{tb:TypeId}(hl:laidOutB P=true)(hp:∀ t∈f.params.toList,P.readableRec t=true/\t < P.types.size)(hW:DataW.Whole enc P f.params.toList s.vars false W args.toList ds gs before)(hv:s.vars=[])(hres:f.resultTypes=#[tb])(htb:P.underlying tb=some .bool)(hs1:(s.fn H (ds++gs)).results=[.lit (.bool true)])(hs2:(s.fn H (ds++gs)).args=ds)(hs3:(s.fn H (ds++gs)).vars=[])(hg:Grew W W') :
  s.post enc P f false true false false W args (.bool true) W':=by
 have hlt:=hW.lt;have hW':=hW;obtain⟨p,q,hA,hV,rfl,_,_⟩:=hW;refine⟨ds,gs,_,[],p,[],hW',?_,?_,?_,hg.frame _,fun h=>by cases h⟩
 ·rw[hs1,hres];exact trodAll_cons_mk (shut_bool htb _) trodAll_mk0
 ·rw[hs2];exact trodAll_grew hl hg _ _ _ _ hp hA (fun x hx=>hlt x (by simp[hx]))
 ·rw[hs3,hv]
  rfl
end
end Go.Proofs.YtccobobnmpafbaaGreatDoor
