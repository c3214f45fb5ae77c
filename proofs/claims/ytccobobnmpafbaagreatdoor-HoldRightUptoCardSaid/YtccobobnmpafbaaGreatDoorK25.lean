/- slices.SortFunc on properties by prop.Patch's order: the contract. -/
import Derived.Test.YtccobobnmpafbaaGreatDoorK20
import Derived.Test.YtccobobnmpafbaaGreatDoorK01
import Derived.Test.YtccobobnmpafbaaGreatDoorK02
import Derived.Sort.OwnSorted
import Derived.Shelf.SlSortCmp.NoneTotal
import Derived.Ground.NamesProg
import Derived.Shelf.SlGeneric
import Derived.Test.YtccobobnmpafbaaGreatDoorProg
import Derived.Test.YtccobobnmpafbaaGreatDoorK21
set_option maxRecDepth 100000
set_option maxHeartbeats 100000000
namespace Go.Proofs.YtccobobnmpafbaaGreatDoor
open Go Go.RowKit Go.Sort
def encP(p:zab):List Value:=[.string p.1,.string p.2]
def cfP(p q:zab):Int:=cmpS p.1 q.1
theorem cfP_lt(p q:zab):ltOf cfP p q=true ↔ ltS p.1 q.1:=by
 unfold ltOf cfP cmpS;rw[decide_eq_true_iff,<- bytesLess_ltS]
 cases h:Op.bytesLess p.1.toList q.1.toList with
 | true=>simp
 | false =>
  cases h2:leS p.1 q.1 <;> simp
theorem swoP:SWO (ltOf cfP) where
 irrefl x:=by
  rw[<- Bool.not_eq_true,cfP_lt];exact zbE _
 trans x y z h1 h2:=by
  rw[cfP_lt] at *;exact zbF h1 h2
 ntrans x y z h1 h2:=by
  rw[<- Bool.not_eq_true,cfP_lt] at *;intro h
  rcases ltS_tri x.1 y.1 with k | k | k
  ·exact h1 k
  ·rw[k] at h;exact h2 h
  ·exact h2 (zbF k h)
theorem orderFn_any(x y:zab)(W:World):Calls Tryz.prog 159 #[.agg #[.string x.1,.string x.2],.agg #[.string y.1,.string y.2]] W fun e w'=>e=.returned (.int .i64 (cfP x y))/\∃ q os',w'=grow (W.drewN q) os':=by
 have C:=zQ0 (fun w=>cmpS_any x.1 y.1 w);have HC:Hid (cfP x y=cmpS x.1 y.1):=rfl;generalize cmpS x.1 y.1=r at *
 go_enter Tryz.func159,Tryz.ntmps159
 go_wp2_with fail
 refine (C.out _).mono ?_;rintro e w' ⟨rfl,hw⟩;rw[hw];go_wp2_with fail
 go_ret
 exact⟨zcz HC.out.symm,0,_,by rw[alloc_eq_grow,alloc_eq_grow,grow_grow];rfl⟩
theorem grownBy_sortedK{w:World}{g n:Nat}{os:Array Obj}(d:Array Value):w.grownBy (grow (putRow id (Sort.ahead w n) g 0 d) os) (some g):=by
 refine⟨rfl,rfl,rfl,by simp,fun k hk hne=>?_⟩;rw[heap_grow_old _ _ (by simpa using hk)];have:g≠k:=fun e=>hne (by rw[e])
 simp[putRow,mapBlock,Sort.ahead,Array.getElem?_modify,this]
theorem encP_at(p:zab)(j:Nat)(hj:j < 2):(encP p)[j]! = zca p j:=by
 match j,hj with
 | 0,_=>rfl
 | 1,_=>rfl
theorem getBang(l:List zab)(i:Nat):l.toArray[i]! = l.getD i default:=by
 rw[Array.getElem!_eq_getD,Array.getD_eq_getD_getElem?,List.getElem?_toArray,List.getD_eq_getElem?_getD]
theorem holds_row{w:World}{lo hi g n c:Nat}{ps:List zab}(h:OwnRow w lo hi (some ⟨g,0,none⟩) n c 2 (fun i j=>zca (ps.getD i default) j))(hn:n=ps.length)(h0:0 < ps.length):HoldsK encP 2 w g 0 ps.toArray:=by
 subst hn;intro t ht;rw[size_flatK] at ht;have ht:t < ps.length * 2:=by simpa using ht
 rw[get_flatK _ _ _ _ (by simpa using ht)];obtain⟨b,o,hb,_,_,hc⟩:=h.1.2 h0;obtain⟨rfl,rfl⟩:g=b/\0=o:=by injection hb with hb;injection hb with h1 h2;exact⟨h1,h2⟩
 have h1:=hc (t / 2) (by omega) (t % 2) (by omega);rw[show 0+t / 2 * 2+t % 2=0+t by omega] at h1;refine⟨?_,h.2 h0 _ rfl _⟩;rw[h1,getBang];exact congrArg some (encP_at _ _ (by omega)).symm
theorem heap_sortedK{w:World}{g n:Nat}{os:Array Obj}{cur:Array Value}{e:TypeId}{fr:Nat × Nat}(d:Array Value)(hb:w.heap[g]? = some (.cells cur e fr)) :
  (grow (putRow id (Sort.ahead w n) g 0 d) os).heap[g]? = some (.cells (putCells id 0 d cur) e fr):=by
 have hg:g < w.heap.size:=(Array.getElem?_eq_some_iff.1 hb).1;rw[heap_grow_old _ _ (by simpa using hg)]
 simp[putRow,mapBlock,Sort.ahead,Array.getElem?_modify,hb,onCells]
theorem up_of_sorted{ps:List zab}{d':Array zab}(hn:(ps.map (·.1)).Nodup)(hp:PermIn 0 ps.toArray.size ps.toArray d')(hs:SortedIn (ltOf cfP) 0 ps.toArray.size d'):d'.size=ps.length/\IsSort d'.toList ps:=by
 have hsz:d'.size=ps.length:=by simpa using hp.1
 have hperm:d'.toList.Perm ps:=by
  have:=hp.2.2;rw[show ps.toArray.size=d'.size by rw[hsz];simp] at this;rw[Array.extract_size] at this;rw[show d'.size=ps.toArray.size by rw[hsz];simp,Array.extract_size] at this
  simpa using this
 have hk:(d'.toList.map (·.1)).Nodup:=(hperm.map _).nodup_iff.2 hn;refine⟨hsz,hperm,?_⟩;rw[Up,List.pairwise_iff_getElem];intro i j hi hj hij;have h1:=hs i j (Nat.zero_le _) hij (by simpa [hsz] using hj);have hi':i < d'.size:=by simpa using hi
 have hj':j < d'.size:=by simpa using hj
 rw[getElem!_pos d' i hi',getElem!_pos d' j hj',<- Bool.not_eq_true,cfP_lt] at h1;rw[Array.getElem_toList,Array.getElem_toList]
 rcases ltS_tri d'[i].1 d'[j].1 with k | k | k
 ·exact k
 ·unfold List.Nodup at hk;rw[List.pairwise_map,List.pairwise_iff_getElem] at hk;exact absurd k (by simpa using hk i j hi hj hij)
 ·exact absurd k h1
end Go.Proofs.YtccobobnmpafbaaGreatDoor
namespace Go.Proofs
open Go.Shelf
def Tryz.sortP_ren : Go.Shelf.Ren := ⟨fun | 6 => 158 | 15 => 192 | 14 => 191 | 28 => 215 | 29 => 216 | 20 => 207 | 21 => 208 | 22 => 209 | 23 => 210 | 24 => 211 | 25 => 212 | 26 => 213 | 27 => 214 | 46 => 222 | 47 => 223 | 48 => 224 | 49 => 225 | 50 => 226 | 57 => 230 | n => n, fun | 22 => 22 | 24 => 101 | 25 => 173 | 3 => 3 | 39 => 205 | 0 => 0 | 53 => 226 | 55 => 228 | 4 => 4 | 46 => 219 | 45 => 218 | 50 => 223 | 5 => 5 | 9 => 9 | 66 => 231 | 70 => 128 | 76 => 242 | 77 => 243 | n => n, fun | n => n⟩
theorem Tryz.sortP : Go.Proofs.SlLaysF0.n6 Tryz.prog Tryz.sortP_ren := {
  mixed := by kernel_rfl
  f6 := ⟨Tryz.f158.name, by decide, Tryz.func158.trans (congrArg some (by kernel_rfl))⟩
  f14 := ⟨Tryz.f191.name, by decide, Tryz.func191.trans (congrArg some (by kernel_rfl))⟩
  f15 := Tryz.func192.trans (congrArg some (by kernel_rfl))
  f20 := ⟨Tryz.f207.name, by decide, Tryz.func207.trans (congrArg some (by kernel_rfl))⟩
  f21 := ⟨Tryz.f208.name, by decide, Tryz.func208.trans (congrArg some (by kernel_rfl))⟩
  f22 := ⟨Tryz.f209.name, by decide, Tryz.func209.trans (congrArg some (by kernel_rfl))⟩
  f23 := ⟨Tryz.f210.name, by decide, Tryz.func210.trans (congrArg some (by kernel_rfl))⟩
  f24 := ⟨Tryz.f211.name, by decide, Tryz.func211.trans (congrArg some (by kernel_rfl))⟩
  f25 := ⟨Tryz.f212.name, by decide, Tryz.func212.trans (congrArg some (by kernel_rfl))⟩
  f26 := ⟨Tryz.f213.name, by decide, Tryz.func213.trans (congrArg some (by kernel_rfl))⟩
  f27 := ⟨Tryz.f214.name, by decide, Tryz.func214.trans (congrArg some (by kernel_rfl))⟩
  f28 := Tryz.func215.trans (congrArg some (by kernel_rfl))
  f29 := Tryz.func216.trans (congrArg some (by kernel_rfl))
  f46 := ⟨Tryz.f222.name, by decide, Tryz.func222.trans (congrArg some (by kernel_rfl))⟩
  f47 := Tryz.func223.trans (congrArg some (by kernel_rfl))
  f48 := Tryz.func224.trans (congrArg some (by kernel_rfl))
  f49 := ⟨Tryz.f225.name, by decide, Tryz.func225.trans (congrArg some (by kernel_rfl))⟩
  f50 := ⟨Tryz.f226.name, by decide, Tryz.func226.trans (congrArg some (by kernel_rfl))⟩
  f57 := ⟨Tryz.f230.name, by decide, Tryz.func230.trans (congrArg some (by kernel_rfl))⟩
  t0 := Tryz.underlying0
  a0 := Tryz.isAgg0
  z0 := Tryz.sizeOf0
  v0 := Tryz.zeroValue0
  t3 := Tryz.underlying3
  a3 := Tryz.isAgg3
  z3 := Tryz.sizeOf3
  v3 := Tryz.zeroValue3
  t4 := Tryz.underlying4
  a4 := Tryz.isAgg4
  z4 := Tryz.sizeOf4
  v4 := Tryz.zeroValue4
  t5 := Tryz.underlying5
  a5 := Tryz.isAgg5
  z5 := Tryz.sizeOf5
  v5 := Tryz.zeroValue5
  t9 := Tryz.underlying9
  a9 := Tryz.isAgg9
  z9 := Tryz.sizeOf9
  v9 := Tryz.zeroValue9
  t22 := Tryz.underlying22
  a22 := Tryz.isAgg22
  z22 := Tryz.sizeOf22
  v22 := Tryz.zeroValue22
  t25 := Tryz.underlying173
  a25 := Tryz.isAgg173
  z25 := Tryz.sizeOf173
  v25 := Tryz.zeroValue173
  t39 := Tryz.underlying205
  a39 := Tryz.isAgg205
  z39 := Tryz.sizeOf205
  v39 := Tryz.zeroValue205
  t45 := Tryz.underlying218
  a45 := Tryz.isAgg218
  z45 := Tryz.sizeOf218
  v45 := Tryz.zeroValue218
  t46 := Tryz.underlying219
  a46 := Tryz.isAgg219
  z46 := Tryz.sizeOf219
  v46 := Tryz.zeroValue219
  t50 := Tryz.underlying223
  a50 := Tryz.isAgg223
  z50 := Tryz.sizeOf223
  v50 := Tryz.zeroValue223
  t53 := Tryz.underlying226
  a53 := Tryz.isAgg226
  z53 := Tryz.sizeOf226
  v53 := Tryz.zeroValue226
  t55 := Tryz.underlying228
  a55 := Tryz.isAgg228
  z55 := Tryz.sizeOf228
  v55 := Tryz.zeroValue228
  t66 := Tryz.underlying231
  a66 := Tryz.isAgg231
  z66 := Tryz.sizeOf231
  v66 := Tryz.zeroValue231
  t70 := Tryz.underlying128
  a70 := Tryz.isAgg128
  z70 := Tryz.sizeOf128
  v70 := Tryz.zeroValue128
  t76 := Tryz.underlying242
  a76 := Tryz.isAgg242
  z76 := Tryz.sizeOf242
  v76 := Tryz.zeroValue242
  t77 := Tryz.underlying243
  a77 := Tryz.isAgg243
  z77 := Tryz.sizeOf243
  v77 := Tryz.zeroValue243 }
end Go.Proofs
namespace Go.Proofs.YtccobobnmpafbaaGreatDoor
open Go Go.RowKit Go.Sort
theorem sortProps_any(ps:List zab)(v:Value)(base:Nat)(w:World)(hown:w.ownsRow base 101 2 v ps.length (zaH ps))(hn:(ps.map (·.1)).Nodup)(hl:ps.length<=1048576) :
  Calls Tryz.prog 158 #[v,.func (.func 159) #[] #[]] w fun e w'=>e=.returned (.tuple #[])/\Keeps (fun k=>v.ownBlock=some k) w w'/\∃ R a c,v=.slice a R.length c/\IsSort R ps/\OwnRow w' base w'.heap.size a R.length c 2 (fun i j=>zca (R.getD i default) j):=by
 obtain⟨a,c,rfl⟩:=zb2 hown;have hrow:=zbZ (f:=fun i j=>zca (ps.getD i default) j) hown (zaI ps)
 by_cases h0:ps.length=0
 ·have hps:ps=[]:=List.length_eq_zero_iff.1 h0;subst hps;have hcon:=AnyF.slices_SortFunc_none Tryz.sortP a c (.func (.func 159) #[] #[]) w;refine Calls.mono (R:=fun e w'=>e=.returned (.tuple #[])/\w'=w) hcon ?_;rintro e w' ⟨rfl,rfl⟩;exact⟨rfl,Keeps.refl _ _,[],a,c,rfl,⟨List.Perm.refl _,List.Pairwise.nil⟩,hrow⟩
 ·rcases hown.2 with ⟨hv,h1⟩ | ⟨g,cap,cur,hv,hg,hb,hrest⟩
  ·exact absurd h1 h0
  ·simp only[Value.slice.injEq] at hv;obtain⟨rfl,_,rfl⟩:=hv;have hgl:g < w.heap.size:=(Array.getElem?_eq_some_iff.1 hb).1;have eg:∀ args w,(callFunc 159 args).run Tryz.prog w=.ok (.enter 159 args) w:=Tryz.call159;have hcon:=AnyQ.slices_SortFunc Tryz.sortP 2 Tryz.isAgg101 Tryz.sizeOf101 encP (fun _=>rfl) (fun x v hv=>by simp[encP] at hv;rcases hv with rfl | rfl <;> rfl) cfP swoP 159 #[] g 0 c ps.toArray w eg (fun _ _ _ _ x y=>orderFn_any x y _) (holds_row hrow rfl (by omega)) hgl (by simp;omega);refine Calls.mono (R:=fun e w'=>e=.returned (.tuple #[])/\∃ d' n os,PermIn 0 ps.toArray.size ps.toArray d'/\SortedIn (ltOf cfP) 0 ps.toArray.size d'/\w'=sortWorldK encP 2 w g 0 n d' os) hcon ?_;rintro e w' ⟨rfl,d',n,os,hp,hs,rfl⟩;obtain⟨hsz,hS⟩:=up_of_sorted hn hp hs;have hH:=holds_row hrow rfl (by omega);have hgr:w.grownBy (sortWorldK encP 2 w g 0 n d' os) (some g):=grownBy_sortedK _;have hH2:HoldsK encP 2 (sortWorldK encP 2 w g 0 n d' os) g 0 d':=holdsK_grow encP 2 _ os g 0 d' (by simpa [putRowK,putRow,mapBlock,Sort.ahead] using hgl) (holdsK_putRowK encP 2 (Sort.ahead w n) g 0 ps.toArray d' (holdsK_ahead encP 2 w n g 0 _ hH) (by rw[hsz];simp));have hblk:=heap_sortedK (n:=n) (os:=os) (flatK encP 2 d') hb;have hlen:d'.toList.length=ps.length:=by simpa using hsz
   refine⟨rfl,zbj hgr (fun k hk=>by obtain rfl:=Option.some.inj hk;rfl),d'.toList,some ⟨g,0,none⟩,c,by rw[hlen],hS,⟨⟨?_,fun hpos=>⟨g,0,rfl,hg,Nat.lt_of_lt_of_le hgl hgr.size,fun i hi j hj=>?_⟩⟩,?_⟩⟩
   ·rw[hlen];exact hrow.1.1
   ·have h1:=(hH2.cell (i:=i) (c:=j) (by simpa using hi) hj).1;rw[h1,encP_at _ _ hj];rw[show d'[i]! = d'.toList.getD i default by rw[<- getBang]]
   ·intro _ ad had j;obtain rfl:=Option.some.inj had
    show World.frozen? _ _=false
    simp only[World.frozen?];rw[show (sortWorldK encP 2 w g 0 n d' os).heap[g]? = _ from hblk]
    simp
end Go.Proofs.YtccobobnmpafbaaGreatDoor
namespace Go.Proofs.YtccobobnmpafbaaGreatDoor
open Go Go.RowKit Go.Maps
theorem patch_any(l old new:List zab)(la oa na:Option Addr)(lc oc nc:Nat)(w:World)(hl:PropsIn w 0 w.heap.size la lc l)(ho:PropsIn w 0 w.heap.size oa oc old)(hn:PropsIn w 0 w.heap.size na nc new)(hlb:zcb l<=1048576)(hob:zcb old<=1048576)(hnb:zcb new<=1048576) :
  Calls Tryz.prog 124 #[.slice la l.length lc,.slice oa old.length oc,.slice na new.length nc] w (PatchEnds l old new w):=by
 have ll:=zcc l;have lo:=zcc old;have ln:=zcc new;have lg:=fun w' (hg:Grew w w')=>((hl.grew hg zQ1).mono zQ1 hg.size:PropsIn w' 0 w'.heap.size la lc l)
 have og:=fun w' (hg:Grew w w')=>((ho.grew hg zQ1).mono zQ1 hg.size:PropsIn w' 0 w'.heap.size oa oc old)
 have ng:=fun w' (hg:Grew w w')=>((hn.grew hg zQ1).mono zQ1 hg.size:PropsIn w' 0 w'.heap.size na nc new)
 have CA:=zQ0 (fun w' (hg:Grew w w') t=>checkAll_any [⟨la,lc,l⟩,⟨oa,oc,old⟩,⟨na,nc,new⟩] (some ⟨w'.heap.size,0,none⟩) 3 _ (pp_three w' ⟨la,lc,l⟩ ⟨oa,oc,old⟩ ⟨na,nc,new⟩ t (lg w' hg) (og w' hg) (ng w' hg)) (by
  intro p hp
  rcases List.mem_cons.1 hp with rfl | hp
  ·exact hlb
  ·rcases List.mem_cons.1 hp with rfl | hp
   ·exact hob
   ·obtain rfl:p=⟨na,nc,new⟩:=by simpa using hp
    exact hnb) (by simp))
 simp only[PP.val,List.map_cons,List.map_nil,List.length_cons,List.length_nil] at CA;have SL:=zQ0 (fun j hj=>props_str (k:=j) hlb hj);have SO:=zQ0 (fun j hj=>props_str (k:=j) hob hj);have SN:=zQ0 (fun j hj=>props_str (k:=j) hnb hj)
 by_cases hz:za7 [l,old,new]=0
 ·obtain⟨ul,uo,un⟩:=firstBad_ups hz
  have HE:Hid (zb5 l old new=if (old.all fun p=>decide (getP p.1 l=some p.2))=false then 9 else if (new.any fun p=>(getP p.1 (zbL l old)).isSome)=true then 9 else if 16 < (zbL l old++new).length then 2 else 0):=by
   show _=_
   unfold zb5;rw[hz]
   simp
  rw[hz] at CA;clear hz;have FL:=zQ0 (fun k hk=>take_fresh ul.nodup (k:=k) hk);have FO:=zQ0 (fun k hk=>take_fresh uo.nodup (k:=k) hk);have FN:=zQ0 (fun k hk=>take_fresh un.nodup (k:=k) hk);have hmm:=@run_makeMap Tryz.prog
  go_enter Tryz.func124,Tryz.ntmps124
  go_wp2_with fail
  refine (CA.out w (Grew.refl _) _).mono ?_;rintro e w1 ⟨rfl,g1⟩;have g1':=(Grew.alloc1 _ _).trans g1;clear CA;go_wp2_with fail
  have hM0:=MapIs.made w1;have g2':=g1'.trans (Grew.alloc1 w1 (.map #[] 0));have hB:w.heap.size<=w1.heap.size:=g1'.size;generalize w1.alloc (.map #[] 0)=w2 at *
  go_loopw [34] (fun i wr=>∃(k:Nat),k<=l.length/\i=.int .i64 k/\Grew w wr/\MapIs wr w1.heap.size k (l.take k)) (fun i _=>l.length - (intOf i).toNat)
  case atStart=>exact⟨0,by omega,rfl,g2',by simpa using hM0⟩
  case round =>
   clear hM0 g2';obtain⟨k,hk,rfl,hg,hM⟩:=hrel
   by_cases hlt:k < l.length
   ·obtain⟨b,o,rfl,_,hbh,c0,c1⟩:=(hl.grew hg zQ1).at hlt;have hs:=SL.out k hlt;have hno:=getP_none.2 (FL.out k hlt);have HT:=zQ0 (zc2 l k hlt);clear lg og ng SO SN FO FN HE;generalize l.getD k default=p at *
    go_wp2_with (at_mapUpdate;refine wp_store _ rfl _ _ _ rfl w1.heap.size k (l.take k) rfl (hM.grew (Grew.alloc1 _ _)) (by unfold maxLen;omega) p rfl rfl hs.1 hs.2 hno ?_;intro w3 hM3 hg3)
    go_roundw
    case rel=>exact⟨k+1,by omega,by go_num,(hg.trans (Grew.alloc1 _ _)).grown hg3 (fun j hj=>by cases hj;exact hB),by rw[HT.out];exact hM3⟩
    case measure=>simp[intOf];omega
   ·obtain rfl:k=l.length:=by omega
    rw[List.take_length] at hM;obtain⟨w3,hw3⟩:∃ w3,w3=wr:=⟨_,rfl⟩
    rw[<- hw3] at hg hM ⊢;clear hw3;go_wp2_with fail
    go_loopw [46] (fun i wr=>∃(k:Nat),k<=old.length/\i=.int .i64 k/\Grew w wr/\MapIs wr w1.heap.size l.length (zbL l (old.take k))/\Hid ((old.take k).all (fun p=>decide (getP p.1 l=some p.2))=true)) (fun i _=>old.length - (intOf i).toNat)
    case atStart=>exact⟨0,by omega,rfl,hg,by simpa [zbL] using hM,(show List.all (List.take 0 old) _=true by simp)⟩
    case round =>
     clear hM hg;obtain⟨k,hk,rfl,hg,hM,hall⟩:=hrel
     by_cases hlt:k < old.length
     ·obtain⟨b,o,rfl,_,hbh,c0,c1⟩:=(ho.grew hg zQ1).at hlt;have hs:=SO.out k hlt;have hno:=getP_minus_out (l:=l) (FO.out k hlt);have HT:Hid (zbL l (old.take (k+1))=dropK (old.getD k default).1 (zbL l (old.take k))):=by show _=_;rw[zc2 old k hlt,minusK_snoc]
      have HA:Hid (getP (old.getD k default).1 l=some (old.getD k default).2->(old.take (k+1)).all (fun p=>decide (getP p.1 l=some p.2))=true):=fun h=>by
       rw[zc2 old k hlt,List.all_append,hall.out]
       simpa using h
      have HB:Hid (getP (old.getD k default).1 l≠some (old.getD k default).2->zb5 l old new=9):=fun h=>by
       rw[HE.out,if_pos];rw[List.all_eq_false];exact⟨_,zbd old k hlt,by simpa using h⟩
      clear lg og ng SN FO FN HE SO hall;generalize old.getD k default=p at *
      cases hr:getP p.1 l with
      | none =>
       rw[hr] at hno;have HC:=zQ0 (HB.out (by rw[hr];simp));clear HA HB hr
       go_wp2_with (at_lookup;refine zdk rfl _ _ rfl w1.heap.size l.length (zbL l (old.take k)) rfl (hM.grew (Grew.alloc1 _ _)) p.1 rfl hs.1 none hno ?_)
       go_ret2
       exact zb8 HC.out (by decide) (hg.trans (Grew.alloc1 _ _))
      | some v =>
       rw[hr] at hno
       by_cases hv:v=p.2
       ·subst hv;have HC:=zQ0 (HA.out hr);have ht:(p.2.toList == p.2.toList)=true:=by simp
        clear HA HB hr
        go_wp2_with (first | (at_lookup;refine zdk rfl _ _ rfl w1.heap.size l.length (zbL l (old.take k)) rfl (hM.grew (Grew.alloc1 _ _)) p.1 rfl hs.1 (some p.2) hno ?_) | (at_delete;refine wp_drop _ rfl _ _ rfl w1.heap.size l.length (zbL l (old.take k)) rfl (hM.grew (Grew.alloc1 _ _)) p.1 rfl hs.1 ?_;intro w4 hM4 hg4))
        go_roundw
        case rel=>exact⟨k+1,by omega,by go_num,(hg.trans (Grew.alloc1 _ _)).grown hg4 (fun j hj=>by cases hj;exact hB),by rw[HT.out];exact hM4,HC⟩
        case measure=>simp[intOf];omega
       ·have HC:=zQ0 (HB.out (by rw[hr];simpa using hv));have ht:(v.toList == p.2.toList)=false:=by rw[zc7];simpa using hv
        clear HA HB hr hv
        go_wp2_with (at_lookup;refine zdk rfl _ _ rfl w1.heap.size l.length (zbL l (old.take k)) rfl (hM.grew (Grew.alloc1 _ _)) p.1 rfl hs.1 (some v) hno ?_)
        go_ret2
        exact zb8 HC.out (by decide) (hg.trans (Grew.alloc1 _ _))
     ·obtain rfl:k=old.length:=by omega
      rw[List.take_length] at hM hall
      have HE2:Hid (zb5 l old new=if (new.any fun p=>(getP p.1 (zbL l old)).isSome)=true then 9 else if 16 < (zbL l old++new).length then 2 else 0):=by
       show _=_
       rw[HE.out,hall.out];rfl
      have hml:=minusK_len l old;obtain⟨w4,hw4⟩:∃ w4,w4=wr:=⟨_,rfl⟩
      rw[<- hw4] at hg hM ⊢;clear hw4 HE hall FO SO;go_wp2_with fail
      go_loopw [71] (fun i wr=>∃(k:Nat),k<=new.length/\i=.int .i64 k/\Grew w wr/\MapIs wr w1.heap.size (l.length+k) (zbL l old++new.take k)/\Hid ((new.take k).any (fun p=>(getP p.1 (zbL l old)).isSome)=false)) (fun i _=>new.length - (intOf i).toNat)
      case atStart=>exact⟨0,by omega,rfl,hg,by simpa using hM,(show List.any (List.take 0 new) _=false by simp)⟩
      case round =>
       clear hM hg;obtain⟨k,hk,rfl,hg,hM,hall⟩:=hrel
       by_cases hlt:k < new.length
       ·obtain⟨b,o,rfl,_,hbh,c0,c1⟩:=(hn.grew hg zQ1).at hlt;have hs:=SN.out k hlt
        have hno:getP (new.getD k default).1 (zbL l old++new.take k)=getP (new.getD k default).1 (zbL l old):=by
         rw[zbg,getP_none.2 (FN.out k hlt)]
         simp
        have HT:Hid (zbL l old++new.take (k+1)=(zbL l old++new.take k)++[new.getD k default]):=by show _=_;rw[zc2 new k hlt,List.append_assoc]
        have HA:Hid (getP (new.getD k default).1 (zbL l old)=none->(new.take (k+1)).any (fun p=>(getP p.1 (zbL l old)).isSome)=false):=fun h=>by
         rw[zc2 new k hlt,List.any_append,hall.out,Bool.false_or,List.any_cons,List.any_nil,Bool.or_false,h]
         rfl
        have HB:Hid ((getP (new.getD k default).1 (zbL l old)).isSome=true->zb5 l old new=9):=fun h=>by
         rw[HE2.out,if_pos];rw[List.any_eq_true];exact⟨_,zbd new k hlt,h⟩
        clear lg og ng FN HE2 SN hall;generalize new.getD k default=p at *
        cases hr:getP p.1 (zbL l old) with
        | none =>
         rw[hr] at hno;have HC:=zQ0 (HA.out hr);clear HA HB hr
         go_wp2_with (first | (at_lookup;refine zdk rfl _ _ rfl w1.heap.size (l.length+k) (zbL l old++new.take k) rfl (hM.grew (Grew.alloc1 _ _)) p.1 rfl hs.1 none hno ?_) | (at_mapUpdate;refine wp_store _ rfl _ _ _ rfl w1.heap.size (l.length+k) (zbL l old++new.take k) rfl (hM.grew (Grew.alloc1 _ _)) (by unfold maxLen;omega) p rfl rfl hs.1 hs.2 hno ?_;intro w5 hM5 hg5))
         go_roundw
         case rel=>exact⟨k+1,by omega,by go_num,(hg.trans (Grew.alloc1 _ _)).grown hg5 (fun j hj=>by cases hj;exact hB),by rw[HT.out];exact hM5,HC⟩
         case measure=>simp[intOf];omega
        | some v =>
         rw[hr] at hno;have HC:=zQ0 (HB.out (by rw[hr];rfl));clear HA HB hr
         go_wp2_with (at_lookup;refine zdk rfl _ _ rfl w1.heap.size (l.length+k) (zbL l old++new.take k) rfl (hM.grew (Grew.alloc1 _ _)) p.1 rfl hs.1 (some v) hno ?_)
         go_ret2
         exact zb8 HC.out (by decide) (hg.trans (Grew.alloc1 _ _))
       ·obtain rfl:k=new.length:=by omega
        rw[List.take_length] at hM hall
        have HE3:Hid (zb5 l old new=if 16 < (zbL l old++new).length then 2 else 0):=by
         show _=_
         rw[HE2.out,hall.out];rfl
        have hms:(zbL l old++new).length<=l.length+new.length:=by rw[List.length_append];omega
        obtain⟨w5,hw5⟩:∃ w5,w5=wr:=⟨_,rfl⟩
        rw[<- hw5] at hg hM ⊢;clear hw5 HE2 hall FN SN lg og ng;have hkeys:=hM.keys;generalize hmsq:zbL l old++new=ms at *;have HMS:=zQ0 hmsq;clear hmsq
        by_cases h16:16 < ms.length
        ·have HC:Hid (zb5 l old new=2):=by show _=_;rw[HE3.out,if_pos h16]
         go_wp2_with (at_len;refine wp_len _ rfl _ rfl w1.heap.size (l.length+new.length) ms rfl hM ?_)
         go_ret2
         exact zb8 HC.out (by decide) hg
        ·have HC:Hid (zb5 l old new=0):=by show _=_;rw[HE3.out,if_neg h16]
         clear HE3
         go_wp2_with (first | (at_len;refine wp_len _ rfl _ rfl w1.heap.size (l.length+new.length) ms rfl hM ?_) | (at_range;refine wp_range _ rfl _ rfl w1.heap.size (l.length+new.length) ms rfl hM ?_;intro w6 cnt hR hg6;go_frame))
         have hBr:w1.heap.size < w5.heap.size:=hM.lt;have hg0:=hg.trans hg6;clear hM hg6
         go_loopw [20] (fun v wr=>∃(cnt:Nat) (got:List zab),RangeIs wr w1.heap.size w5.heap.size (l.length+new.length) ms got cnt/\wr.ownsRow (w5.heap.size+1) 101 2 v got.length (zaH got)/\Grew w wr) (fun _ wr=>wr.rangeLeft w1.heap.size w5.heap.size)
         case atStart=>exact⟨cnt,[],hR,World.ownsRow_nil _ _ _ _,hg0⟩
         case round =>
          clear hR hg0;obtain⟨cnt,got,hR,hown,hg0⟩:=hrel;have hlen:=hR.len;have hmeas:=hR.measure;have hlo:=hown.lt;obtain⟨va,vc,rfl⟩:=zb2 hown
          go_wp2_with (at_next;refine wp_next _ rfl _ rfl w1.heap.size w5.heap.size (l.length+new.length) cnt ms got rfl hR ?_ ?_)
          ·intro hperm;have hSort:=zQ0 (sortProps_any got (.slice va got.length vc) (w5.heap.size+1) wr hown (nodup_keys_perm hperm hkeys) (by omega));clear hR hown;go_wp2_with fail
           refine hSort.out.mono ?_;rintro e w8 ⟨rfl,hk8,R,a8,c8,hv8,hRS,hrow⟩;have hz8:=hk8.size;have hz5:=hg0.size;simp only[Value.slice.injEq] at hv8;obtain⟨rfl,e2,rfl⟩:=hv8;go_wp2_with fail
           go_ret2
           have hrow':OwnRow w8 w.heap.size w8.heap.size va R.length vc 2 (fun i j=>zca (R.getD i default) j):=⟨hrow.1.mono (by have:=hg.size;omega) zQ1,hrow.2⟩
           have g8:=hg0.keep hk8 (fun j hj=>by
            have h1:=(hlo j hj).1;have h2:=hg.size
            omega)
           exact patch_done HC.out (by rw[HMS.out];exact⟨hRS.1.trans hperm,hRS.2⟩) g8 hrow'
          ·intro x c w7 cnt' hR7 hlt7 hp hg7 hen;have hown7:=hown.kept hg7 (Or.inr (fun h=>by have:=hlo _ h;omega));have hz7:=hg7.size;have hsz7:w7.heap.size ≥ w5.heap.size+1:=by have:=hR7.lt;omega
           clear hown hR;have hg7':=hg0.grown hg7 (fun j hj=>by cases hj;have:=hg.size;omega);have HC:=props_cells w7 (x,c) 101;simp only at HC;have hb5:w5.heap.size+1<=(w7.alloc (Obj.cells #[.string x,.string c] 101)).heap.size:=by rw[World.size_alloc];omega
           go_wp2_with (at_builtin;refine zdi rfl (.tmp 99) (.tmp 103) 22 rfl (w5.heap.size+1) 101 Tryz.underlying22 infoPropC rfl (by decide) (.slice va got.length vc) got.length (zaH got) rfl (zb4 hown7 (Grew.alloc1 _ _)) (some ⟨w7.heap.size,0,none⟩) 1 1 w7.heap.size (w7.heap.size+1) _ rfl HC (zaH [(x,c)]) (cellsOfProps_len [(x,c)]) (zaI [(x,c)]) (cellsOfProps_one [(x,c)]) (by unfold maxLen;omega) (by omega) hb5 ?_;intro v' w9 hown9 hg9 hb9;obtain⟨va',vc',rfl⟩:=zb2 hown9)
           have hR9:=(hR7.kept (World.grownBy_alloc w7 (Obj.cells #[.string x,.string c] 101) none) (by simp) (by simp)).kept hg9 (fun h=>by have:=hlo _ h.symm;omega) (fun h=>by have:=hlo _ h.symm;omega)
           go_roundw
           case rel=>exact⟨cnt',got++[(x,c)],hR9,by simpa [zaH] using hown9,(hg7'.alloc _).grown hg9 (fun j hj=>by have:=hlo j hj;have:=hg.size;omega)⟩
           case measure=>rw[hR9.measure,hmeas];exact hlt7
 ·have HE:Hid (zb5 l old new=za7 [l,old,new]):=by
   show _=_
   unfold zb5;rw[if_pos hz]
  have hne:(za7 [l,old,new] != 0)=true:=by simpa using hz
  have HZ:=zQ0 hz;clear hz;generalize za7 [l,old,new]=v at *
  go_enter Tryz.func124,Tryz.ntmps124
  go_wp2_with fail
  refine (CA.out w (Grew.refl _) _).mono ?_;rintro e w1 ⟨rfl,g1⟩;have g1':=(Grew.alloc1 _ _).trans g1;go_wp2_with fail
  go_ret2
  exact zb8 HE.out HZ.out g1'
end Go.Proofs.YtccobobnmpafbaaGreatDoor
