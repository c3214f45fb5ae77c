/- BEHIND AN OPERATION all leaves say what they said, where no text and no node was put in, taken out, or moved; and a tree may be; plain. -/
import Derived.Test.YtbhbekocmpmjfaaGreatDoorK33
import Derived.Test.YtbhbekocmpmjfaaGreatDoorK10
import Derived.Test.YtbhbekocmpmjfaaGreatDoorK01
import Derived.Test.YtbhbekocmpmjfaaGreatDoorK09
import Derived.Test.YtbhbekocmpmjfaaGreatDoorK26
import Derived.Test.YtbhbekocmpmjfaaGreatDoorK02
namespace Go.Proofs.YtbhbekocmpmjfaaGreatDoor
open Go Go.RowKit
theorem T.chks_zero:∀ {l:List T},T.chks l=0 ↔ ∀ k∈l,k.chk=0
 | []=>by simp [T.chks]
 | k::r=>by
  rw [T.chks]
  by_cases h:k.chk=0
  ·rw [if_neg (by simpa using h),T.chks_zero];simp [h]
  ·rw [if_pos h];simp [h]
theorem T.chk_zero {t:T}:t.chk=0 ↔ t.own=0∧∀ k∈t.ks,k.chk=0:=by
 rw [T.chk_eq]
 by_cases h:t.own=0
 ·rw [if_neg (by simpa using h),T.chks_zero];simp [h]
 ·rw [if_pos h];simp [h]
theorem T.own_zero {t:T}:t.own=0 ↔ zaQ t.ps=0∧(t.lf=true→t.ks=[])∧(t.lf=false→t.ts=[])∧zaS t.ts=0:=by
 unfold T.own
 by_cases h1:zaQ t.ps=0
 ·rw [if_neg (by simpa using h1)];simp only [h1,true_and]
  cases hl:t.lf with
  | true =>
   cases hk:t.ks with
   | nil=>simp
   | cons k r=>simp
  | false =>
   cases hk:t.ts with
   | nil=>simp
   | cons k r=>simp
 ·rw [if_pos h1];simp [h1]
theorem T.mem_getD {l:List T} {i:Nat} (h:i < l.length):l.getD i default∈l:=by
 rw [List.getD,List.getElem?_eq_getElem h];exact List.getElem_mem h
theorem T.chk_at {y:T}:∀ {p:List Int} {t:T},t.chk=0→t.at p=some y→y.chk=0:=by
 intro p
 induction p with
 | nil=>intro t h e;injection e with e;subst e;exact h
 | cons i r ih =>
  intro t h e;rw [T.at] at e
  split at e
  ·cases e
  ·rename_i hn
   exact ih ((T.chk_zero.1 h).2 _ (T.mem_getD (by omega))) e
theorem T.setAt_cons (y t:T) (i:Int) (r:List Int):T.setAt y t (i::r)=t.kids (t.ks.set i.toNat (T.setAt y (t.ks.getD i.toNat default) r)):=rfl
theorem T.chk_leaf {k:T} (h:k.chk=0) (hl:k.lf=true):k.ks=[]:=(T.own_zero.1 (T.chk_zero.1 h).1).2.1 hl
theorem T.chk_elem {k:T} (h:k.chk=0) (hl:k.lf=false):k.ts=[]:=(T.own_zero.1 (T.chk_zero.1 h).1).2.2.1 hl
theorem T.chk_ks {k:T} (h:k.chk=0):∀ x∈k.ks,x.chk=0:=(T.chk_zero.1 h).2
theorem isSort_ex:∀ (ms:List zac),(ms.map (·.1)).Nodup→∃ R,IsSort R ms
 | [],_=>⟨[],List.Perm.refl _,List.Pairwise.nil⟩
 | p::ms,h=>by
  rw [List.map_cons,List.nodup_cons] at h;obtain ⟨R,hp,hu⟩:=isSort_ex ms h.2;have hne:∀ q∈R,q.1≠p.1:=fun q hq e=>h.1 (e ▸ List.mem_map_of_mem (f:=fun x:zac=>x.1) (hp.subset hq));have hdec:∀ q:zac,Decidable (ltS q.1 p.1):=fun q=>Classical.propDecidable _;refine ⟨R.filter (fun q=>@decide (ltS q.1 p.1) (hdec q))++p::R.filter (fun q=>!(@decide (ltS q.1 p.1) (hdec q))),?_,?_⟩
  ·refine List.perm_middle.trans (List.Perm.cons p ?_);exact (List.filter_append_perm _ R).trans hp
  ·refine List.pairwise_append.2 ⟨hu.filter _,List.pairwise_cons.2 ⟨fun q hq=>?_,hu.filter _⟩,fun q hq r hr=>?_⟩
   ·rw [List.mem_filter] at hq
    rcases ltS_tri p.1 q.1 with h1 | h1 | h1
    ·exact h1
    ·exact absurd h1.symm (hne q hq.1)
    ·simp [h1] at hq
   ·rw [List.mem_filter] at hq;have h1:ltS q.1 p.1:=by simpa using hq.2
    rcases List.mem_cons.1 hr with rfl | hr
    ·exact h1
    ·rw [List.mem_filter] at hr
     rcases ltS_tri p.1 r.1 with h2 | h2 | h2
     ·exact zbI h1 h2
     ·exact h2 ▸ h1
     ·simp [h2] at hr
theorem patchT_chk {l old new:List zac} (h:(zca l old new).2=0):zaQ (zca l old new).1=0∧zb9 l old new=0∧(zca (zca l old new).1 new old)=(l,0):=by
 have h0:zb9 l old new=0:=h
 have hR:IsSort (zca l old new).1 (zbM l old++new):=by
  have:∃ R,IsSort R (zbM l old++new):=isSort_ex _ (zcb h0);unfold zca;rw [if_pos h0];exact Classical.epsilon_spec (p:=fun R=>IsSort R (zbM l old++new)) this
 obtain ⟨h1,h2,h3⟩:=patch_back h0 hR;refine ⟨h1,h0,?_⟩
 have hR':IsSort (zca (zca l old new).1 new old).1 (zbM (zca l old new).1 new++old):=by
  have:∃ R,IsSort R (zbM (zca l old new).1 new++old):=isSort_ex _ (zcb h2)
  show IsSort (if zb9 (zca l old new).1 new old=0 then _ else []) _
  rw [if_pos h2];exact Classical.epsilon_spec (p:=fun R=>IsSort R (zbM (zca l old new).1 new++old)) this
 exact Prod.ext (h3 _ hR') h2
def T.data (t:T):T:=t.kids []
theorem T.data_ts {a b:T} (h:a.data=b.data):a.ts=b.ts:=by
 have:a.data.ts=b.data.ts:=by rw [h]
 exact this
theorem T.at_go {t:T} {i:Int} {r:List Int} (h0:0≤i) (h1:i < t.ks.length):t.at (i::r)=(t.ks.getD i.toNat default).at r:=by rw [T.at,if_neg (by omega)]
theorem T.at_of {t y:T} {i:Int} {r:List Int} (h:t.at (i::r)=some y):0≤i∧i < t.ks.length∧(t.ks.getD i.toNat default).at r=some y:=by
 rw [T.at] at h
 split at h
 ·cases h
 ·exact ⟨by omega,by omega,h⟩
theorem T.at_on {z x u:T} {up:List Int} (h:x.at up=some u) (r:List Int):(T.setAt z x up).at (up++r)=z.at r:=by
 rw [T.at_both,T.at_setAt h];rfl
theorem T.at_up {x u:T} {up:List Int} (h:x.at up=some u) (r:List Int):x.at (up++r)=u.at r:=by
 rw [T.at_both,h];rfl
theorem getD_setOff {α:Type} (l:List α) {i j:Nat} (x d:α) (h:i≠j):(l.set i x).getD j d=l.getD j d:=by
 simp [List.getD,h]
theorem T.at_not {z:T}:∀ {up p:List Int} {x u y:T},x.at up=some u→x.at p=some y→(∀ j r,p≠up++j::r)→(p=up→z.data=u.data)→∃ y',(T.setAt z x up).at p=some y'∧y'.data=y.data∧((∀ r,up≠p++r)→y'=y):=by
 intro up
 induction up with
 | nil =>
  intro p x u y hu hp hn hz
  cases p with
  | cons j r=>exact absurd rfl (hn j r)
  | nil =>
   injection hu with hu
   injection hp with hp
   subst hu;subst hp;exact ⟨z,rfl,hz rfl,fun h=>absurd rfl (h [])⟩
 | cons i s ih =>
  intro p x u y hu hp hn hz
  cases p with
  | nil =>
   injection hp with hp
   subst hp;exact ⟨_,rfl,rfl,fun h=>absurd rfl (h (i::s))⟩
  | cons j r =>
   obtain ⟨hi0,hi1,hu'⟩:=T.at_of hu;obtain ⟨hj0,hj1,hp'⟩:=T.at_of hp;have hL:(T.setAt z x (i::s)).ks=x.ks.set i.toNat (T.setAt z (x.ks.getD i.toNat default) s):=rfl
   have hgo:(T.setAt z x (i::s)).at (j::r)=((x.ks.set i.toNat (T.setAt z (x.ks.getD i.toNat default) s)).getD j.toNat default).at r:=by
    rw [T.at_go hj0 (by rw [hL,List.length_set];exact hj1),hL]
   by_cases hij:i=j
   ·subst hij;rw [getD_setIdx _ _ _ _ (by omega)] at hgo;obtain ⟨y',h1,h2,h3⟩:=ih hu' hp' (fun j' r' e=>hn j' r' (by rw [e];rfl)) (fun e=>hz (by rw [e]));exact ⟨y',by rw [hgo,h1],h2,fun h=>h3 (fun r' e=>h r' (by rw [e];rfl))⟩
   ·rw [getD_setOff _ _ _ (by omega)] at hgo;exact ⟨y,by rw [hgo,hp'],rfl,fun _=>rfl⟩
theorem zbf {a b:List T} {j:Nat} (h:j < a.length):(a++b).getD j default=a.getD j default:=by
 simp [List.getD,List.getElem?_append,h]
theorem zbg {a b:List T} {j:Nat} (h:a.length≤j):(a++b).getD j default=b.getD (j - a.length) default:=by
 simp [List.getD,List.getElem?_append,Nat.not_lt.2 h]
theorem alike_app (up:List Int) (a b:List Int):zai (up++a) (up++b)=up.length+zai a b:=by
 induction up with
 | nil=>simp
 | cons x r ih=>simp only [List.cons_append,zai,if_pos,List.length_cons,ih];omega
theorem alike_take:∀ (a b:List Int),a.take (zai a b)=b.take (zai a b)
 | [],b=>by simp [zai]
 | x::a,[]=>by simp [zai]
 | x::a,y::b=>by
  unfold zai
  split
  ·rename_i h
   rw [List.take_succ_cons,List.take_succ_cons,alike_take a b,h]
  ·rfl
theorem stands_on (up:List Int) (i j:Int) (r:List Int):zcX (up++[i]) (up++j::r)=if j=i then (if r=[] then 3 else 2) else if i < j then 1 else 0:=by
 unfold zcX;rw [if_neg (by simp)]
 by_cases hj:j=i
 ·subst hj;rw [if_pos rfl]
  by_cases hr:r=[]
  ·subst hr;rw [if_pos rfl,if_pos rfl]
  ·have hne:¬ (up++[j]=up++j::r):=fun e=>by
    have:=List.append_cancel_left e;injection this with _ h
    exact hr h.symm
   rw [if_neg hne,if_neg hr,if_pos];unfold zaf;have hl:0 < r.length:=List.length_pos_iff.2 hr;have h1:(up++[j]).length < (up++j::r).length:=by simp;omega
   have h2:up++[j]=(up++j::r).take (up++[j]).length:=by
    rw [show up++j::r=(up++[j])++r by simp,List.take_left' rfl]
   simp only [decide_eq_true h1,decide_eq_true h2,Bool.and_self]
 ·rw [if_neg hj]
  have hne:¬ (up++[i]=up++j::r):=fun e=>by
   have:=List.append_cancel_left e;injection this with h _
   exact hj h.symm
  have hab:¬ zaf (up++[i]) (up++j::r)=true:=by
   rw [aboveP_alike,alike_app]
   have:zai [i] (j::r)=0:=by
    unfold zai;rw [if_neg (fun e=>hj e.symm)]
   rw [this]
   simp
  rw [if_neg hne,if_neg hab];unfold leftG
  have hal:zai (up++[i]) (up++j::r)=up.length:=by
   rw [alike_app]
   have:zai [i] (j::r)=0:=by
    unfold zai;rw [if_neg (fun e=>hj e.symm)]
   rw [this];rfl
  rw [hal];have g1:(up++[i]).getD up.length 0=i:=zcT up i;have g2:(up++j::r).getD up.length 0=j:=by simp [List.getD]
  rw [g1,g2]
  by_cases hlt:i < j
  ·rw [if_pos hlt,if_pos]
   simp [hlt]
  ·rw [if_neg hlt,if_neg]
   simp [hlt]
theorem zcY {up p:List Int} {i:Int} (h:∀ j r,p≠up++j::r):zcX (up++[i]) p=0:=by
 unfold zcX;rw [if_neg (by simp),if_neg (fun e=>h i [] e.symm)]
 have key:∀ k:Nat,up.length≤k→k≤p.length→up.length < p.length→(up++[i]).take k=p.take k→False:=by
  intro k h1 h2 h3 he
  have h4:(up++[i]).take up.length=p.take up.length:=by
   have:=congrArg (List.take up.length) he
   rwa [List.take_take,List.take_take,Nat.min_eq_left h1] at this
  rw [snoc_take] at h4;refine h (p.getD up.length 0) (p.drop (up.length+1)) ?_
  conv=>lhs;rw [← List.take_append_drop up.length p]
  rw [← h4,List.drop_eq_getElem_cons h3]
  simp [List.getD,List.getElem?_eq_getElem h3]
 rw [if_neg,if_neg]
 ·unfold leftG;intro hl;simp only [Bool.and_eq_true,decide_eq_true_eq] at hl;have h1:zai (up++[i]) p=up.length:=by have:=hl.1;simp at this;omega
  exact key _ (by omega) (by omega) (by omega) (h1 ▸ alike_take (up++[i]) p)
 ·unfold zaf;intro hl;simp only [Bool.and_eq_true,decide_eq_true_eq] at hl;have h1:=hl.1;have h2:=hl.2;rw [List.length_append,List.length_singleton] at h1;refine key (up.length+1) (by omega) (by omega) (by omega) ?_;rw [List.length_append,List.length_singleton] at h2;rw [← h2,List.take_of_length_le (by simp)]
theorem below_or (up p:List Int):(∃ j r,p=up++j::r)∨(∀ j r,p≠up++j::r):=by
 by_cases h:∃ j r,p=up++j::r
 ·exact Or.inl h
 ·exact Or.inr fun j r e=>h ⟨j,r,e⟩
theorem zdq {j:Int} (h0:-4611686018427387904≤j) (h1:j≤4611686018427387904):wrap64 j=j:=by
 unfold wrap64;omega
theorem zcR (up:List Int) {j d:Int} (r:List Int) (h0:-4611686018427387904≤j+d) (h1:j+d≤4611686018427387904):zcQ (up++j::r) up.length d=up++(j+d)::r:=by
 unfold zcQ;have g2:(up++j::r).getD up.length 0=j:=by simp [List.getD]
 rw [g2,zdq h0 h1]
 simp
theorem T.pos_ins {x u m y:T} {up p:List Int} {i:Nat} {a b:List T} (hu:x.at up=some u) (hk:u.ks=a++b) (hi:a.length=i) (hp:x.at p=some y) (hs:∀ j∈p,j≤1048576) :
  ∃ y',(T.setAt (u.kids (a++m::b)) x up).at (zbt p (up++[(i:Int)]))=some y'∧y'.data=y.data∧((∀ r,up≠p++r)→y'=y):=by
 unfold zbt
 rcases below_or up p with ⟨j,r,rfl⟩ | hn
 ·rw [stands_on,zcU];have hj1:j≤1048576:=hs j (by simp);rw [T.at_up hu] at hp;obtain ⟨h0,h1,h2⟩:=T.at_of hp;rw [hk] at h1 h2;refine ⟨y,?_,rfl,fun _=>rfl⟩
  by_cases hlt:j < i
  ·have e:(if j=(i:Int) then (if r=[] then (3:Int) else 2) else if (i:Int) < j then 1 else 0)=0:=by
    rw [if_neg (by omega),if_neg (by omega)]
   rw [if_pos e,T.at_on hu,T.at_go h0 (by rw [T.kids_ks,List.length_append,List.length_cons];rw [List.length_append] at h1;omega),T.kids_ks,zbf (by omega)];rw [zbf (by omega)] at h2;exact h2
  ·have e:(if j=(i:Int) then (if r=[] then (3:Int) else 2) else if (i:Int) < j then 1 else 0)≠0:=by
    by_cases hj:j=i
    ·rw [if_pos hj];split <;> decide
    ·rw [if_neg hj,if_pos (by omega)];decide
   rw [if_neg e,zcR up r (by omega) (by omega),T.at_on hu,T.at_go (by omega) (by rw [T.kids_ks,List.length_append,List.length_cons];rw [List.length_append] at h1;omega),T.kids_ks];rw [zbg (by omega)] at h2 ⊢;have:(j+1).toNat - a.length=(j.toNat - a.length)+1:=by omega
   rw [this];exact h2
 ·rw [zcY hn,if_pos rfl];exact T.at_not hu hp hn (fun _=>rfl)
theorem T.pos_cut {x u k y:T} {up p:List Int} {i:Nat} {a b:List T} (hu:x.at up=some u) (hk:u.ks=a++k::b) (hi:a.length=i) (hp:x.at p=some y) (hs:∀ j∈p,j≤1048576) (h3:zcX (up++[(i:Int)]) p≠3) (h2:zcX (up++[(i:Int)]) p≠2) :
  ∃ y',(T.setAt (u.kids (a++b)) x up).at (if zcX (up++[(i:Int)]) p=1 then zcQ p up.length (-1) else p)=some y'∧y'.data=y.data∧((∀ r,up≠p++r)→y'=y):=by
 rcases below_or up p with ⟨j,r,rfl⟩ | hn
 ·rw [stands_on] at h3 h2 ⊢;have hj1:j≤1048576:=hs j (by simp)
  have hji:¬ j=(i:Int):=fun e=>by
   rw [if_pos e] at h3 h2
   split at h3
   ·exact h3 rfl
   ·rename_i hr
    rw [if_neg hr] at h2;exact h2 rfl
  rw [T.at_up hu] at hp;obtain ⟨h0,h1,h4⟩:=T.at_of hp;rw [hk] at h1 h4;rw [List.length_append,List.length_cons] at h1;refine ⟨y,?_,rfl,fun _=>rfl⟩;rw [if_neg hji]
  by_cases hlt:(i:Int) < j
  ·rw [if_pos hlt,if_pos rfl,zcR up r (by omega) (by omega),T.at_on hu,T.at_go (by omega) (by rw [T.kids_ks,List.length_append];omega),T.kids_ks];rw [zbg (by omega)] at h4 ⊢;have:j.toNat - a.length=((j + -1).toNat - a.length)+1:=by omega
   rw [this] at h4;exact h4
  ·rw [if_neg hlt,if_neg (by decide),T.at_on hu,T.at_go h0 (by rw [T.kids_ks,List.length_append];omega),T.kids_ks];rw [zbf (by omega)] at h4 ⊢;exact h4
 ·rw [zcY hn,if_neg (by decide)];exact T.at_not hu hp hn (fun _=>rfl)
theorem stands_in {up p:List Int} {i:Int} (h:zcX (up++[i]) p=3∨zcX (up++[i]) p=2):∃ r,p=up++i::r∧(zcX (up++[i]) p=3 ↔ r=[]):=by
 rcases below_or up p with ⟨j,r,rfl⟩ | hn
 ·rw [stands_on] at h ⊢
  by_cases hj:j=i
  ·subst hj;refine ⟨r,rfl,?_⟩;rw [if_pos rfl]
   by_cases hr:r=[]
   ·simp [hr]
   ·simp [hr]
  ·rw [if_neg hj] at h
   split at h <;> omega
 ·rw [zcY hn] at h;omega
theorem smallL_iff {l:List Int}:zcS l=true ↔ ∀ j∈l,0≤j∧j≤1048576:=by
 unfold zcS;rw [idxOf_any]
 constructor
 ·intro h j hj;have h':l.any badN=false:=by simpa using h
  rw [List.any_eq_false] at h';exact badN_bound (by simpa using h' j hj)
 ·intro h
  have:l.any badN=false:=by
   rw [List.any_eq_false];intro j hj;have:=h j hj;unfold badN;simp only [Bool.or_eq_true,decide_eq_true_eq];omega
  rw [this];rfl
def inF (k c:Int):Prop:=∃ fs,hasL k=some fs∧c∈fs
theorem form_iff {o:OpE}:zbd o=0 ↔ (∃ fs,hasL o.kind=some fs)∧(o.path≠[]→inF o.kind 112)∧(o.dest≠[]→inF o.kind 116)∧(o.pos≠0→inF o.kind 97)∧(o.node≠T.zero→inF o.kind 110)∧(o.old≠[]→inF o.kind 111)∧(o.new≠[]→inF o.kind 119)∧(o.text≠[]→inF o.kind 120)∧(zcK o.src SelE.nil=false→inF o.kind 115)∧(zcK o.dst SelE.nil=false→inF o.kind 115):=by
 unfold zbd inF
 cases hf:hasL o.kind with
 | none=>simp
 | some fs =>
  simp only [Option.some.injEq,exists_eq_left']
  have hall:((setE o).all (fun c=>decide (c∈fs))=true) ↔ ∀ c∈setE o,c∈fs:=by
   rw [List.all_eq_true];simp
  have hmem:(∀ c∈setE o,c∈fs) ↔ ∀ x∈za6 o,x.2=true→x.1∈fs:=by
   unfold setE setOf
   constructor
   ·intro h x hx h2;exact h x.1 (List.mem_map.2 ⟨x,List.mem_filter.2 ⟨hx,h2⟩,rfl⟩)
   ·intro h c hc;obtain ⟨x,hx,rfl⟩:=List.mem_map.1 hc;obtain ⟨h1,h2⟩:=List.mem_filter.1 hx;exact h x h1 h2
  have hp:∀ {α:Type} (l:List α),0 < l.length ↔ l≠[]:=fun l=>by cases l <;> simp
  have key:(∀ x∈za6 o,x.2=true→x.1∈fs) ↔ ((o.path≠[]→112∈fs)∧(o.dest≠[]→116∈fs)∧(o.pos≠0→97∈fs)∧(o.node≠T.zero→110∈fs)∧(o.old≠[]→111∈fs)∧(o.new≠[]→119∈fs)∧(o.text≠[]→120∈fs)∧(zcK o.src SelE.nil=false→115∈fs)∧(zcK o.dst SelE.nil=false→115∈fs)):=by
   unfold za6;simp only [List.forall_mem_cons,decide_eq_true_eq,hp,List.not_mem_nil,false_implies,implies_true,and_true,Bool.not_eq_true']
  split
  ·rename_i h
   rw [hall,hmem,key] at h;exact ⟨fun _=>⟨⟨fs,rfl⟩,h⟩,fun _=>rfl⟩
  ·rename_i h
   rw [hall,hmem,key] at h;exact ⟨fun h'=>(by cases h'),fun h'=>absurd h'.2 h⟩
theorem inF_iff {k c:Int}:inF k c ↔ ((k=1∨k=2)∧(c=112∨c=110))∨(k=3∧(c=112∨c=97∨c=111))∨(k=4∧(c=112∨c=97∨c=119))∨(k=5∧(c=112∨c=116))∨(k=6∧(c=112∨c=111∨c=119))∨((k=7∨k=8)∧(c=112∨c=97∨c=120))∨(k=9∧c=115):=by
 unfold inF hasL
 by_cases h1:k=1
 ·subst h1;simp
 by_cases h2:k=2
 ·subst h2;simp
 by_cases h3:k=3
 ·subst h3;simp
 by_cases h4:k=4
 ·subst h4;simp
 by_cases h5:k=5
 ·subst h5;simp
 by_cases h6:k=6
 ·subst h6;simp
 by_cases h7:k=7
 ·subst h7;simp
 by_cases h8:k=8
 ·subst h8;simp
 by_cases h9:k=9
 ·subst h9;simp
 simp [h1,h2,h3,h4,h5,h6,h7,h8,h9]
theorem nil_of_not {α:Type} {l:List α} {P:Prop} (h:l≠[]→P) (hn:¬ P):l=[]:=Classical.byContradiction fun e=>hn (h e)
theorem form_dest {o:OpE} (hf:zbd o=0) (h:o.kind≠5):o.dest=[]:=by
 obtain ⟨_,f1,f2,_⟩:=form_iff.1 hf;exact nil_of_not f2 (by rw [inF_iff];omega)
theorem form_path9 {o:OpE} (hf:zbd o=0) (h:o.kind=9):o.path=[]:=by
 obtain ⟨_,f1,f2,_⟩:=form_iff.1 hf;exact nil_of_not f1 (by rw [inF_iff];omega)
structure Undo (o b:OpE):Prop where
 inv:invT o=(b,0)
 back:invT b=(o,0)
 form:zbd b=0
 kind:b.kind=zc9 o.kind
 pos:b.pos=o.pos
 node:b.node=o.node
 old:b.old=o.new
 new:b.new=o.old
 text:b.text=o.text
 src:b.src=o.dst
 dst:b.dst=o.src
theorem shaped_cut {n:T} {o:OpE} {r k:T} (h:o.kind=2∨o.kind=3∨o.kind=4∨o.kind=5) (hp:o.kind=4→zaQ o.new=0) (ha:cutT n o.path=(r,k,0)):zcO n o=if o.kind=2 then (if k=o.node then (r,0) else (T.nilT,9)) else if o.kind=3 then zbK r k o else if o.kind=4 then zcW r k o else addT r o.dest k:=by
 unfold zcO;rw [if_neg (by omega),if_neg (by rintro ⟨h1,h2⟩;exact h2 (hp h1)),ha,if_neg (by rintro ⟨_,h2⟩;exact h2 rfl)];simp only
 rcases h with h | h | h | h <;> simp [h]
theorem T.tsm (a:Bool) (b:List zac) (c:List Int) (d:List T):(T.mk a b c d).ts=c:=rfl
theorem may_of {n:T} {s:SelE} {o:OpE} (h1:n.chk=0) (h2:n.lf=false) (h3:zaT n s=0) (h4:zbd o=0):mayT n s o=0:=by
 unfold mayT;rw [if_neg (fun h=>h h1),if_neg (by rw [h2];decide),if_neg (fun h=>h h3),h4]
theorem runes_abc:zcI { data:=#[97,98,99] }=[97,98,99]:=by kernel_rfl
def exN:T:=.mk false [(typeKey,{ data:=#[112] })] [] [.mk true [] [97,98,99] []]
def exA:T:=.mk false [(typeKey,{ data:=#[112] })] [] [.mk true [] [97] [],.mk true [] [98,99] []]
def exO:OpE:=OpE.of 4 [0] [] 1 T.zero []
theorem ex_form:zbd exO=0:=by
 rw [form_iff];refine ⟨⟨_,rfl⟩,fun _=>⟨_,rfl,by decide⟩,fun h=>absurd rfl h,fun _=>⟨_,rfl,by decide⟩,fun h=>absurd rfl h,fun h=>absurd rfl h,fun h=>absurd rfl h,fun h=>absurd rfl h,fun h=>?_,fun h=>?_⟩
 ·exact absurd (show zcK SelE.nil SelE.nil=true from rfl) (by rw [show zcK SelE.nil SelE.nil=false from h];decide)
 ·exact absurd (show zcK SelE.nil SelE.nil=true from rfl) (by rw [show zcK SelE.nil SelE.nil=false from h];decide)
theorem ex_chk:exN.chk=0:=by kernel_rfl
theorem ex_cut:cutT exN [0]=(T.mk false [(typeKey,{ data:=#[112] })] [] [],.mk true [] [97,98,99] [],0):=by kernel_rfl
theorem ex_split:zcW (T.mk false [(typeKey,{ data:=#[112] })] [] []) (.mk true [] [97,98,99] []) exO=(exA,0):=by kernel_rfl
theorem ex_apply:zak exN SelE.nil exO=(exA,SelE.nil,0):=by
 have hs:zcO exN exO=(exA,0):=by
  rw [shaped_cut (o:=exO) (.inr (.inr (.inl rfl))) (fun _=>rfl) ex_cut];exact ex_split
 unfold zak;rw [if_neg (fun h=>h (may_of ex_chk rfl rfl ex_form)),if_neg (show ¬ exO.kind=9 by decide),hs,if_neg (by simp),if_neg (show ¬ (staysT SelE.nil exO=false) by rw [show staysT SelE.nil exO=true from rfl];decide)]
theorem opL_in {w:World} {a:Option Addr} {c:Nat} {p:List Int} {k pos:Int} (h:IntsIn w 0 w.heap.size a c p):(OpL.of k ⟨a,c,p⟩ PN.nil pos NT.zero none 0 []).In w 0 w.heap.size :=
 ⟨⟨h,zbv⟩,NT.zero_in,zch,zch,zcH,zcL,zcL⟩
theorem exO_er (a:Option Addr) (c:Nat):(OpL.of 4 ⟨a,c,[0]⟩ PN.nil 1 NT.zero none 0 []).er=exO:=by rw [OpL.of_er,NT.zero_er];rfl
theorem ex_few:fewE exN SelE.nil exO=true:=by kernel_rfl
theorem two_there {w W:World} {tA tB:TypeId} (hW:(w.alloc (.cells NT.nil.cells4.toArray tA)).alloc (.cells SelL.nil.cells.toArray tB)=W):W.there w.heap.size 0 4∧W.there (w.heap.size+1) 0 5:=by
 obtain ⟨_,_,t1,_,t2,_⟩:=zat w NT.nil.cells4 SelL.nil.cells tA tB W hW;exact ⟨t1,t2⟩
def XB (b:Nat) (x:NT) (t:SelL) (wz:World):Prop:=wz.rangeAt b 0 x.cells4∧wz.rangeAt (b+1) 0 t.cells∧b+2≤wz.heap.size
theorem XB.grew {b:Nat} {wz w':World} {x:NT} {t:SelL} (h:XB b x t wz) (g:Grew wz w'):XB b x t w':=by
 obtain ⟨h1,h2,h3⟩:=h;exact ⟨zcm h1 g (by omega),zcm h2 g (by omega),Nat.le_trans h3 g.size⟩
theorem XB.x {b:Nat} {wz:World} {n:NT} {t:SelL} (h:XB b n t wz):wz.cell? ⟨b,0,none⟩=some (.bool n.lf)∧wz.cell? ⟨b,1,none⟩=some (.slice n.pa n.ps.length n.pc)∧wz.cell? ⟨b,2,none⟩=some (.slice n.ta n.ts.length n.tc)∧wz.cell? ⟨b,3,none⟩=some (.slice n.ka n.ks.length n.kc):=by
 have h:=NT.cells4_at.1 h.1;unfold NodeAt at h;simp only [Nat.zero_add] at h;exact h
theorem XB.t {b:Nat} {wz:World} {n:NT} {s:SelL} (h:XB b n s wz):wz.cell? ⟨b+1,0,none⟩=some (.bool s.is)∧wz.cell? ⟨b+1,1,none⟩=some (.slice s.a.p.a s.a.p.l.length s.a.p.c)∧wz.cell? ⟨b+1,2,none⟩=some (.int .i64 s.a.o)∧wz.cell? ⟨b+1,3,none⟩=some (.slice s.f.p.a s.f.p.l.length s.f.p.c)∧wz.cell? ⟨b+1,4,none⟩=some (.int .i64 s.f.o) :=
 ⟨zcl h.2.1 (j:=0) rfl,zcl h.2.1 (j:=1) rfl,zcl h.2.1 (j:=2) rfl,zcl h.2.1 (j:=3) rfl,zcl h.2.1 (j:=4) rfl⟩
theorem put2_new {w W wa wb:World} {x:NT} {t:SelL} {tA tB:TypeId} (hW:(w.alloc (.cells NT.nil.cells4.toArray tA)).alloc (.cells SelL.nil.cells.toArray tB)=W) (ha:W.setCells w.heap.size 0 x.cells4=wa) (hb:wa.setCells (w.heap.size+1) 0 t.cells=wb):Grew w wb∧XB w.heap.size x t wb:=by
 obtain ⟨g1,_,t1,_,t2,z1⟩:=zat w NT.nil.cells4 SelL.nil.cells tA tB W hW;have k1:Keeps (·=w.heap.size) W wa:=by rw [← ha];exact zcM _ x.cells4 0 W
 have k2:Keeps (·=w.heap.size+1) wa wb:=by rw [← hb];exact zcM _ t.cells 0 wa
 have r1:wa.rangeAt w.heap.size 0 x.cells4:=by rw [← ha];exact zco t1
 have r2:wb.rangeAt (w.heap.size+1) 0 t.cells:=by rw [← hb];exact zco (by rw [← ha];exact World.there_setCells t2 _ _ _)
 have s1:=k1.size;have s2:=k2.size;exact ⟨(g1.keep k1 (fun j hj=>by have:j=w.heap.size:=hj;omega)).keep k2 (fun j hj=>by have:j=w.heap.size+1:=hj;omega),zcn r1 k2 (by omega) (by show ¬ (_=_);omega),r2,by omega⟩
theorem apply12 {n:NT} {s:SelL} {o:OpL} {w:World} (h:fewE n.er s.er o.er=true) (hf:Fit n s o w):Calls Tryz.prog 15 #[n.val,s.val,o.val] w (RetApply (zak n.er s.er o.er) w):=by
 obtain ⟨h1,h2,h3⟩:=fewE_parts h;obtain ⟨ht,hp,hd⟩:=za4 h3;obtain ⟨ha,hb⟩:=fewSel_small h2;have:=few_bulk h1;exact apply_any n s o w hf.hn hf.hs hf.ho (by omega) ht ha hb hp hd
set_option maxRecDepth 100000 in
set_option maxHeartbeats 4000000 in
theorem live12_any (w:World):Calls Tryz.prog 13 #[] w fun e w'=>e=.returned (.bool true)∧Grew w w':=by
 have LA:=zQ0 (leaf_any { data:=#[97] } (by decide) none 0 []);have LB:=zQ0 (leaf_any { data:=#[98,99] } (by decide) none 0 []);have LC:=zQ0 (leaf_any { data:=#[97,98,99] } (by decide) none 0 [])
 go_enter Tryz.func13,Tryz.ntmps13
 go_wp2_with fail
 refine (LC.out _ zch).mono ?_;rintro e w1 ⟨x,rfl,g1,ok1,E1⟩;unfold NT.val;have EL:=zQ0 (elem_any { data:=#[112] } (some ⟨w1.heap.size,0,none⟩) 1 [x] _ ((kidsIn_one (t:=26) ok1).mono zQ1 (by simp)));clear ok1;go_wp2_with fail
 refine EL.out.mono ?_;rintro e w2 ⟨y,rfl,g2,ok2,E2⟩
 have hy:y.er=exN:=by
  rw [E2.out,List.map_cons,List.map_nil,E1.out,runes_abc,p_filled];rfl
 have G2:=zQ0 (g1.trans ((Grew.alloc1 _ _).trans g2))
 have AP:=zQ0 (fun w3 (g:Grew w2 w3)=>apply12 (n:=y) (s:=SelL.nil) (o:=OpL.of 4 ⟨some ⟨w3.heap.size,0,none⟩,1,[0]⟩ PN.nil 1 NT.zero none 0 []) (w:=w3.alloc (.cells #[.int .i64 0] 3)) (by rw [hy,exO_er];exact ex_few) ⟨NT.Ok.grew ok2 (g.trans (Grew.alloc1 _ _)),zcL,opL_in ((zcC (n:=1) (cp:=1) (k:=1) (f:=fun i _=>.int .i64 ([0].getD i 0)) zQ1 (by unfold maxLen;omega) (fun i hi j hj=>by
  obtain rfl:j=0:=by omega
  obtain rfl:i=0:=by omega
  rfl)).mono (Nat.zero_le _) (by simp)),by rw [hy];decide,by show NT.zero.er.bulk≤_;rw [NT.zero_er];decide,by show 1+zcf []≤_;decide,by show 1+zcf []≤_;decide⟩)
 rw [hy,show SelL.nil.er=SelE.nil from rfl] at AP;simp only [exO_er,ex_apply] at AP;have AP2:=zQ0 (AP.out w2 (Grew.refl _));unfold NT.val SelL.val OpL.val at AP2;clear AP E1 E2 g1 g2 ok2 hy EL LC;unfold NT.val;go_wp2_with fail
 refine AP2.out.mono ?_;rintro e w4 ⟨x,t,rfl,g4,hx,ht,hxe,hte⟩;have G4:=zQ0 (G2.out.trans ((Grew.alloc1 _ _).trans g4));have HX4:Hid (x.Ok w4):=hx.mono (Nat.zero_le _) zQ1;have HXE:Hid (x.er=exA):=hxe.out;clear AP2 G2 hx ht hxe hte g4;unfold NT.val SelL.val
 go_upto_region 2 with (first | (show wpList _ _ _ (Oper.mk none (Op.store 26 (.tmp 1) (.tmp 12)) _ _ _ _::_) _ _;generalize hW:World.alloc (World.alloc w4 _) _=wW;obtain ⟨tX,tY⟩:=two_there hW;refine wpList_store_mid rfl 26 (.tmp 1) (.tmp 12) rfl w4.heap.size 0 x.cells4.toArray rfl rfl tX zbp (NT.cells4_all _) ?_;generalize hA:World.setCells wW _ _ _=wa;have tZ:wa.there (w4.heap.size+1) 0 5:=(by rw [← hA];exact World.there_setCells tY _ _ _)) | (show wpList _ _ _ (Oper.mk none (Op.store 33 (.tmp 2) (.tmp 13)) _ _ _ _::_) _ _;refine wpList_store_mid rfl 33 (.tmp 2) (.tmp 13) rfl (w4.heap.size+1) 0 t.cells.toArray rfl rfl tZ zbs (all_oneCell_toArray t.cells_one) ?_;generalize hB:World.setCells wa _ _ _=wb))
 obtain ⟨g5,hXB⟩:=put2_new hW hA hB;clear hW hA hB tX tY tZ;have G5:=zQ0 (G4.out.trans g5);have HX5:=zQ0 (NT.Ok.grew HX4.out g5);clear g5 HX4 G4;have KB:=fun w' (g:Grew wb w')=>(((hXB.grew g).x):w'.cell? ⟨w4.heap.size,0,none⟩=some (.bool x.lf)∧w'.cell? ⟨w4.heap.size,1,none⟩=some (.slice x.pa x.ps.length x.pc)∧w'.cell? ⟨w4.heap.size,2,none⟩=some (.slice x.ta x.ts.length x.tc)∧w'.cell? ⟨w4.heap.size,3,none⟩=some (.slice x.ka x.ks.length x.kc))
 clear hXB;generalize w4.heap.size=b7 at *;have g50:Grew wb wb.drew:=(Grew.refl _).drew;have RS:=zQ0 (fun (z:NT) (hz:z.er=exA) w1 (hzk:z.Ok w1) (g:Grew wb w1)=>refSame04_any x z w1 (NT.Ok.grew HX5.out g) hzk (by rw [HXE.out];decide) (by rw [hz];decide));unfold NT.val at LA LB RS
 go_region_held3 (fun w'=>Grew wb w') ((first | with_reducible exact g50 | with_reducible assumption | exact Grew.trans (by with_reducible assumption) (Grew.alloc1 _ _)))
  ((first | (go_at_call 62;first | (refine (LB.out wA zch).mono ?_;rintro e wB ⟨y2,rfl,gB,okB,EB⟩;have hB:Grew wb wB:=hA.trans gB) | (refine (LA.out wb.drew zch).mono ?_;rintro e wA ⟨y1,rfl,gA,okA,EA⟩;have hA:Grew wb wA:=g50.trans gA)) | (go_at_call 61;refine (elem_any { data:=#[112] } (some ⟨wB.heap.size,0,none⟩) 2 [y1,y2] _ ((kidsIn_two (t:=26) (NT.Ok.grew okA gB) okB).mono zQ1 (by simp))).mono ?_;rintro e wC ⟨u,rfl,gC,okC,EC⟩;have hC:Grew wb wC:=hB.trans ((Grew.alloc1 _ _).trans gC)) | (go_at_call 16;refine (RS.out u (by rw [EC.out,List.map_cons,List.map_cons,EA.out,EB.out,runes_a,runes_bc,p_filled];rfl) wC okC hC).mono ?_;rintro e wD ⟨rfl,gD⟩;have hD:Grew wb wD:=hC.trans gD;have t9:decide (x.er=u.er)=true:=decide_eq_true (by rw [HXE.out,EC.out,List.map_cons,List.map_cons,EA.out,EB.out,runes_a,runes_bc,p_filled];rfl))))
 all_goals
  go_wp2_with fail
  go_ret
  exact ⟨zcz rfl,G5.out.trans hD⟩
theorem T.bulkAll_put (k:T):∀ (l:List T) (i:Nat),i < l.length→T.bulkAll (l.set i k)+(l.getD i default).bulk=T.bulkAll l+k.bulk
 | [],_,h=>absurd h (Nat.not_lt_zero _)
 | x::r,0,_=>by simp only [List.set_cons_zero,T.bulkAll,List.getD_cons_zero];omega
 | x::r,i+1,h=>by
  have:=T.bulkAll_put k r i (by simpa using h);simp only [List.set_cons_succ,T.bulkAll,List.getD_cons_succ];omega
theorem T.bulk_atSet {y y':T}:∀ {p:List Int} {t:T},t.at p=some y→(T.setAt y' t p).bulk+y.bulk=t.bulk+y'.bulk:=by
 intro p
 induction p with
 | nil =>
  intro t h;injection h with h
  subst h
  show y'.bulk+_=_
  omega
 | cons i r ih =>
  intro t h;rw [T.at] at h
  split at h
  ·cases h
  ·rename_i hn
   have h1:=ih h;have h2:=T.bulkAll_put (T.setAt y' (t.ks.getD i.toNat default) r) t.ks i.toNat (by omega);rw [T.setAt,T.bulk,T.bulk_eq t];omega
theorem T.bulk_kids (u:T) (l:List T):(u.kids l).bulk+T.bulkAll u.ks=u.bulk+T.bulkAll l:=by
 rw [T.kids,T.bulk,T.bulk_eq u];omega
theorem T.bulk_split (k:T) (i:Nat) (new:List zac):(k.first i).bulk+(k.second i new).bulk≤k.bulk+1+zcf new:=by
 have h1:T.bulkAll (k.ks.take i)+T.bulkAll (k.ks.drop i)=T.bulkAll k.ks:=by rw [← T.bulkAll_append,List.take_append_drop]
 have h2:(k.ts.take i).length+(k.ts.drop i).length=k.ts.length:=by rw [← List.length_append,List.take_append_drop]
 unfold T.first T.second;rw [T.bulk_eq k]
 split
 ·simp only [T.bulk,T.bulkAll];omega
 ·simp only [T.bulk,List.length_nil];omega
theorem shaped_bulk {n:T} {o:OpE} {m:Nat} (hb:n.bulk≤262144) (hm1:o.node.bulk≤m) (hm2:zcf o.new≤m) (hm3:o.text.length≤m) (hf:zbd o=0) (h9:o.kind≠9) (hs:(zcO n o).2=0):(zcO n o).1.bulk≤2 * n.bulk+m+1:=by
 have hkk:=zbe hf
 rcases (show o.kind=1∨o.kind=2∨o.kind=3∨o.kind=4∨o.kind=5∨(o.kind=6∨o.kind=7∨o.kind=8) by omega) with h1 | h1 | h1 | h1 | h1 | h1
 ·obtain ⟨up,i,u,a,b,_,e2,_,e3,_,_,e8⟩:=done1 hf h1 hs;have h2:=T.bulk_atSet (y':=u.kids (a++o.node::b)) e2;have h3:=T.bulk_kids u (a++o.node::b);rw [e3,T.bulkAll_append,T.bulkAll_append,T.bulkAll] at h3;rw [e8];omega
 ·obtain ⟨up,i,u,a,b,_,e2,e3,_,e8⟩:=done2 hf h1 hs;have h2:=T.bulk_atSet (y':=u.kids (a++b)) e2;have h3:=T.bulk_kids u (a++b);rw [e3,T.bulkAll_append,T.bulkAll_append,T.bulkAll] at h3;rw [e8];omega
 ·obtain ⟨up,i,u,x,k,a,b,_,e2,e3,_,e5,_,_,e8⟩:=done3 (by omega) hf h1 hs;have h2:=T.bulk_atSet (y':=u.kids (a++x.join k::b)) e2;have h3:=T.bulk_kids u (a++x.join k::b)
  have h4:(x.join k).bulk≤x.bulk+k.bulk:=by
   unfold T.join;rw [T.bulk,T.bulk_eq x,T.bulk_eq k,T.bulkAll_append,List.length_append];omega
  rw [e3,T.bulkAll_append,T.bulkAll_append,T.bulkAll,T.bulkAll,T.bulkAll] at h3;rw [e8];omega
 ·obtain ⟨up,i,u,k,a,b,_,e2,_,e3,_,_,_,_,e8⟩:=done4 hf h1 hs;have h2:=T.bulk_atSet (y':=u.kids (a++k.first o.pos.toNat::k.second o.pos.toNat o.new::b)) e2;have h3:=T.bulk_kids u (a++k.first o.pos.toNat::k.second o.pos.toNat o.new::b);have h4:=T.bulk_split k o.pos.toNat o.new;rw [e3,T.bulkAll_append,T.bulkAll_append,T.bulkAll,T.bulkAll,T.bulkAll] at h3;rw [e8];omega
 ·obtain ⟨up,vp,i,j,u,v,k,r,a,b,c,d,_,e2,e3,_,er,_,f2,_,f4,_,e8⟩:=done5 hf h1 hs;have h2:=T.bulk_atSet (y':=u.kids (a++b)) e2;have h3:=T.bulk_kids u (a++b);rw [e3,T.bulkAll_append,T.bulkAll_append,T.bulkAll] at h3;rw [← er] at h2;have h4:=T.bulk_atSet (y':=v.kids (c++k::d)) f2;have h5:=T.bulk_kids v (c++k::d);rw [f4,T.bulkAll_append,T.bulkAll_append,T.bulkAll] at h5;rw [e8];omega
 ·obtain ⟨k,k',e1,e2,e3⟩:=done6 hf h1 hs;have h2:=T.bulk_atSet (y':=k') e1;have hk:=zav e1;rw [T.bulk_eq k] at h2
  rcases e3 with ⟨_,_,hpt,rfl⟩ | ⟨_,_,hi,rfl⟩ | ⟨_,_,hi,rfl⟩
  ·have h3:zcf (zca k.ps o.old o.new).1≤zcf k.ps+zcf o.new:=by
    obtain ⟨_,h0,_⟩:=patchT_chk hpt
    have hR:IsSort (zca k.ps o.old o.new).1 (zbM k.ps o.old++o.new):=by
     unfold zca;rw [if_pos h0];exact Classical.epsilon_spec (p:=fun R=>IsSort R (zbM k.ps o.old++o.new)) (isSort_ex _ (zcb h0))
    exact patch_bulk (.inr ⟨h0,hR⟩)
   rw [T.bulk] at h2;rw [e2];omega
  ·obtain ⟨_,_,_,_,h5⟩:=insert_ok hi;have h6:=congrArg Prod.fst h5;simp only at h6;rw [h6] at e2;rw [h6,T.bulk] at h2;simp only [List.length_append,List.length_take,List.length_drop] at h2;rw [e2];omega
  ·obtain ⟨_,_,_,h5⟩:=zcr hi;have h6:=congrArg Prod.fst h5;simp only at h6;rw [h6] at e2;rw [h6,T.bulk] at h2;simp only [List.length_append,List.length_take,List.length_drop] at h2;rw [e2];omega
theorem apply_bulk2 {n:T} {s:SelE} {o:OpE} {m:Nat} (hb:n.bulk≤262144) (hm1:o.node.bulk≤m) (hm2:zcf o.new≤m) (hm3:o.text.length≤m):(zak n s o).1.bulk≤2 * n.bulk+m+1:=by
 by_cases h:(zak n s o).2.2=0
 ·obtain ⟨hm,h⟩:=zal h;obtain ⟨_,_,_,hf⟩:=may_ok hm
  rcases h with ⟨_,_,_,he⟩ | ⟨h9,hs,_,he⟩
  ·rw [he];show n.bulk≤_;omega
  ·rw [he];exact shaped_bulk hb hm1 hm2 hm3 hf h9 hs
 ·rw [(apply_no h).1];have:T.nilT.bulk=1:=by decide
  omega
theorem apply_bulk {n:T} {s:SelE} {o:OpE} (hb:n.bulk≤262144) (ht:o.Tiny):(zak n s o).1.bulk≤1048576:=by
 obtain ⟨_,⟨_,h2⟩,h3,h4⟩:=ht;have:=apply_bulk2 (s:=s) (o:=o) hb h4 h2 h3;omega
end Go.Proofs.YtbhbekocmpmjfaaGreatDoor
/- A REGION THAT DRAWS ITS ORDER: an operation taken first, its slot told: so the act can be written out again behind each, and long rows of operations stay cheap. -/
namespace Go.Proofs.YtbhbekocmpmjfaaGreatDoor
open Go
theorem wpAnyN_at {P:Program} {ops:Array Oper} {Q:Exit→Act→World→Prop} {md:Region.Mode} {S:World→Prop} {need:Nat→Bool} {i:Nat} {oi:Oper} {v:Value} {fuel:Nat} {listed:Array Bool} {a:Act} {w:World} (d:Option Tmp) (hi:ops[i]? = some oi) (hd:oi.dst=d)
  (hs:Region.noSelect ops=true) (hf:Region.free md ops listed i=true) (hn:needsAll need md ops listed i=true) (hr:(Region.ready md ops listed).contains i=true)
  (hQ:∀ c a w,Q (.panic c) (a.put d v) w→Q (.panic c) a w) (hy:YieldsIf P ops S oi v a) (hS:S w)
  (h:zdb P md ops Q S need fuel (listed.setIfInBounds i true) (a.put d v) w):zdb P md ops Q S need (fuel+1) listed a w:=by
 subst hd;exact wpAnyN_take hi hs hf hn hr hQ hy hS h
theorem zdc {P:Program} {ops:Array Oper} {Q:Exit→Act→World→Prop} {md:Region.Mode} {S:World→Prop} {need:Nat→Bool} {i:Nat} {oi:Oper} {v:Value} {fuel:Nat} {listed:Array Bool} {a:Act} {w:World} (d:Option Tmp) (hi:ops[i]? = some oi) (hd:oi.dst=d) (hb:(Region.noSelect ops && Region.free md ops listed i && needsAll need md ops listed i && (Region.ready md ops listed).contains i)=true) (hy:YieldsIf P ops S oi v a) (hS:S w)
  (h:zdb P md ops Q S need fuel (listed.setIfInBounds i true) (a.put d v) w) (hQ:∀ c a w,Q (.panic c) (a.put d v) w→Q (.panic c) a w:=by exact fun _ _ _ h=>h):zdb P md ops Q S need (fuel+1) listed a w:=by
 simp only [Bool.and_eq_true] at hb;exact wpAnyN_at d hi hd hb.1.1.1 hb.1.1.2 hb.1.2 hb.2 hQ hy hS h
end Go.Proofs.YtbhbekocmpmjfaaGreatDoor
/- ONE KID OF A ROW: plain. -/
namespace Go.Proofs.YtbhbekocmpmjfaaGreatDoor
open Go Go.RowKit
theorem T.set_kid {v u z:T} {x y:List T} (hk:v.ks=x++u::y):T.setAt z v [(x.length:Int)]=v.kids (x++z::y):=by
 rw [T.setAt,T.setAt,Int.toNat_natCast,hk,List.set_append_right _ _ zQ1,Nat.sub_self];rfl
theorem T.setAt_kid {n v u z:T} {vp:List Int} {x y:List T} {i:Nat} (hv:n.at vp=some v) (hk:v.ks=x++u::y) (hi:x.length=i):T.setAt z n (vp++[(i:Int)])=T.setAt (v.kids (x++z::y)) n vp:=by
 subst hi;rw [T.setAt_append hv,T.set_kid hk]
theorem T.at_the_kid {n v u:T} {vp:List Int} {x y:List T} {i:Nat} (hv:n.at vp=some v) (hk:v.ks=x++u::y) (hi:x.length=i):n.at (vp++[(i:Int)])=some u:=by
 subst hi;rw [T.at_up hv];exact T.at_kid hk
end Go.Proofs.YtbhbekocmpmjfaaGreatDoor
