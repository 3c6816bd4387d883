/-
  Part 48 of the proof.
-/
import Derived.Test.YtelkmeiepliecaaGreatDoorU45
set_option linter.unusedSimpArgs false
set_option linter.unusedVariables false
set_option maxHeartbeats 16000000
namespace Go.Proofs.YtelkmeiepliecaaGreatDoor
open Pm
theorem len_of_sub {α:Type} [DecidableEq α]:∀ (X E:List α),X.Nodup→(∀ x∈X,x∈E)→X.length≤E.length
 | [],E,_,_=>Nat.zero_le _
 | x::X,E,hd,h=>by
  obtain ⟨hx,hd⟩:=List.nodup_cons.1 hd
  have hm:=h x List.mem_cons_self
  have ih:=len_of_sub X (E.erase x) hd fun y hy=>(List.mem_erase_of_ne (fun e=>hx (by rw [←e];exact hy))).2 (h y (List.mem_cons_of_mem _ hy))
  rw [List.length_erase_of_mem hm] at ih
  have:=List.length_pos_of_mem hm
  rw [List.length_cons]
  omega
theorem pigeon {α:Type} [DecidableEq α] {X E:List α} (hd:X.Nodup) (h:E.length<X.length):∃ x∈X,x∉E:=by
 rcases Classical.em (∃ x∈X,x∉E) with h1|h1
 ·exact h1
 ·exfalso
  have:=len_of_sub X E hd fun x hx=>by
   rcases Classical.em (x∈E) with h2|h2
   ·exact h2
   ·exact absurd ⟨x,hx,h2⟩ h1
  omega
def allB:List UInt8:=((List.range 256).map UInt8.ofNat).filter isB
def oneB:List UInt8:=allB.filter fun c=>!(c==46)
theorem allB_len:allB.length=66:=by decide +kernel
theorem oneB_len:oneB.length=65:=by decide +kernel
theorem allB_nd:allB.Nodup:=by decide +kernel
theorem oneB_nd:oneB.Nodup:=allB_nd.filter _
theorem allB_is {c:UInt8} (h:c∈allB):isB c=true:=(List.mem_filter.1 h).2
theorem oneB_is {c:UInt8} (h:c∈oneB):isB c=true∧¬ c=46:=by
 obtain ⟨h1,h2⟩:=List.mem_filter.1 h
 exact ⟨allB_is h1,by simpa using h2⟩
theorem len_two {α:Type} (p:α→Bool):∀ L:List α,(L.filter p).length+(L.filter fun x=>!p x).length=L.length
 | []=>rfl
 | x::L=>by
  have ih:=len_two p L
  cases h:p x with
  | true=>rw [List.filter_cons_of_pos h,List.filter_cons_of_neg (by rw [h];decide),List.length_cons,List.length_cons];omega
  | false=>rw [List.filter_cons_of_neg (by rw [h];decide),List.filter_cons_of_pos (by rw [h];rfl),List.length_cons,List.length_cons];omega
theorem star_tl {p:ByteArray} (hp:partB p=true) (hs:stB p=true):(tlB p).data.toList.all isB=true:=by
 have h1:=star_head hs
 unfold partB at hp
 rw [Bool.or_eq_true] at hp
 rcases hp with h|h
 ·unfold starOk at h
  rw [Bool.and_eq_true] at h
  have h2:=h.2
  rw [h1,List.drop_succ_cons,List.drop_zero] at h2
  exact h2
 ·exfalso
  rw [h1] at h
  unfold comp at h
  simp only [List.all_cons,Bool.and_eq_true] at h
  exact absurd h.2.1 (by decide)
theorem comp_app3 {c:UInt8} {r s:List UInt8} (h:isB c=true∧¬ c=46) (hr:r.all isB=true) (hs:s.all isB=true):comp (c::(r++s))=true:=by
 unfold comp
 simp only [List.all_cons,List.all_append,Bool.and_eq_true,Bool.not_eq_true',beq_eq_false_iff_ne]
 exact ⟨h.2,h.1,hr,hs⟩
theorem star_out {p q:ByteArray} {x:List UInt8} (hp:stB p=true) (hq:stB q=true) (hi:insB p q=false) (hm:mpOk q (mkB (x++(tlB p).data.toList))=true):∃ a c,a≠[]∧c≠[]∧x=a++c∧(tlB q).data.toList=c++(tlB p).data.toList:=by
 have hsuf:Lib.hasSuffix (tlB p).data.toList (tlB q).data.toList=false:=by
  unfold insB at hi
  rw [hq,hp] at hi
  split at hi
  ·cases hi
  ·simpa using hi
 have hno:∀ e,(tlB p).data.toList=e++(tlB q).data.toList→False:=fun e h=>by
  have:Lib.hasSuffix (tlB p).data.toList (tlB q).data.toList=true:=by
   unfold Lib.hasSuffix
   rw [List.isSuffixOf_iff_suffix]
   exact ⟨e,h.symm⟩
  rw [hsuf] at this
  cases this
 obtain ⟨a,ha,h⟩:=(mp_star hq).1 hm
 rw [mkB_data] at h
 rcases List.append_eq_append_iff.1 h with ⟨e,h1,h2⟩|⟨e,h1,h2⟩
 ·exact (hno _ h2).elim
 ·refine ⟨a,e,ha,fun e0=>?_,h1,h2⟩
  subst e0
  exact hno [] h2.symm
theorem part_out {p:ByteArray} {L:List ByteArray} (hp:partB p=true) (hL:∀ q∈L,insB p q=false) (hn:L.length≤129):∃ y,comp y.data.toList=true∧mpOk p y=true∧∀ q∈L,mpOk q y=false:=by
 cases hs:stB p with
 | false =>
  refine ⟨p,part_name hp hs,(mp_lit hs).2 rfl,fun q hq=>?_⟩
  have hi:=hL q hq
  unfold insB at hi
  split at hi
  ·cases hi
  ·rename_i hne
   cases hsq:stB q with
   | false =>
    cases hm:mpOk q p with
    | false=>rfl
    | true=>exact absurd ((mp_lit hsq).1 hm).symm hne
   | true =>
    rw [if_neg (by rw [hsq];decide),if_neg (by rw [hs];decide)] at hi
    exact hi
 | true =>
  have ht:=star_tl hp hs
  have key:∀ (c:UInt8) (r:List UInt8),isB c=true∧¬ c=46→r.all isB=true→comp (mkB ((c::r)++(tlB p).data.toList)).data.toList=true∧mpOk p (mkB ((c::r)++(tlB p).data.toList))=true:=fun c r h hr=>by
   refine ⟨?_,(mp_star hs).2 ⟨c::r,by simp,by rw [mkB_data]⟩⟩
   rw [mkB_data]
   exact comp_app3 h hr ht
  have lit:∀ {q y:ByteArray},q∈L→stB q=false→y∉L.filter (fun q=>!stB q)→mpOk q y=false:=fun {q y} hq hsq hy=>by
   cases hm:mpOk q y with
   | false=>rfl
   | true =>
    have:=(mp_lit hsq).1 hm
    subst this
    exact absurd (List.mem_filter.2 ⟨hq,by rw [hsq];rfl⟩) hy
  have hcnt:=len_two stB L
  rcases Nat.lt_or_ge (L.filter fun q=>!stB q).length 65 with h64|h65
  ·
   have hnd:(oneB.map fun c=>mkB ([c]++(tlB p).data.toList)).Nodup:=List.pairwise_map.2 (oneB_nd.imp fun {a b} h e=>h (by
    have e2:(mkB ([a]++(tlB p).data.toList)).data.toList=(mkB ([b]++(tlB p).data.toList)).data.toList:=by rw [e]
    rw [mkB_data,mkB_data] at e2
    exact (List.cons.inj e2).1))
   obtain ⟨y,hy,hE⟩:=pigeon (E:=L.filter fun q=>!stB q) hnd (by rw [List.length_map,oneB_len];exact h64)
   obtain ⟨c,hc,rfl⟩:=List.mem_map.1 hy
   obtain ⟨k1,k2⟩:=key c [] (oneB_is hc) rfl
   refine ⟨_,k1,k2,fun q hq=>?_⟩
   cases hsq:stB q with
   | false=>exact lit hq hsq hE
   | true =>
    cases hm:mpOk q (mkB ([c]++(tlB p).data.toList)) with
    | false=>rfl
    | true =>
     exfalso
     obtain ⟨a,b,ha,hb,e,_⟩:=star_out hs hsq (hL q hq) hm
     cases a with
     | nil=>exact ha rfl
     | cons a0 a =>
      cases b with
      | nil=>exact hb rfl
      | cons b0 b =>
       have:=congrArg List.length e
       simp at this
  ·
   have hE1:((L.filter stB).map fun q=>(tlB q).data.toList.headD 0).length<allB.length:=by rw [List.length_map,allB_len];omega
   obtain ⟨c1,hc1,n1⟩:=pigeon allB_nd hE1
   obtain ⟨c2,hc2,n2⟩:=pigeon (E:=c1::(L.filter stB).map fun q=>(tlB q).data.toList.headD 0) allB_nd (by rw [List.length_cons,List.length_map,allB_len];omega)
   have n3:c2≠c1:=fun e=>n2 (e▸List.mem_cons_self)
   have n4:c2∉(L.filter stB).map fun q=>(tlB q).data.toList.headD 0:=fun h=>n2 (List.mem_cons_of_mem _ h)
   have inj:∀ {a b c d:UInt8},mkB ([a,c]++(tlB p).data.toList)=mkB ([b,d]++(tlB p).data.toList)→a=b∧c=d:=fun {a b c d} e=>by
    have e2:(mkB ([a,c]++(tlB p).data.toList)).data.toList=(mkB ([b,d]++(tlB p).data.toList)).data.toList:=by rw [e]
    rw [mkB_data,mkB_data] at e2
    have e3:=List.cons.inj e2
    exact ⟨e3.1,(List.cons.inj e3.2).1⟩
   have hnd:((oneB.map fun a=>mkB ([a,c1]++(tlB p).data.toList))++(oneB.map fun a=>mkB ([a,c2]++(tlB p).data.toList))).Nodup:=by
    rw [List.nodup_append]
    refine ⟨List.pairwise_map.2 (oneB_nd.imp fun {a b} h e=>h (inj e).1),List.pairwise_map.2 (oneB_nd.imp fun {a b} h e=>h (inj e).1),fun y hy z hz e=>?_⟩
    obtain ⟨a,_,rfl⟩:=List.mem_map.1 hy
    obtain ⟨b,_,rfl⟩:=List.mem_map.1 hz
    exact n3 (inj e).2.symm
   obtain ⟨y,hy,hE⟩:=pigeon (E:=L.filter fun q=>!stB q) hnd (by rw [List.length_append,List.length_map,List.length_map,oneB_len];omega)
   have fin:∀ {a c:UInt8},a∈oneB→c∈allB→c∉((L.filter stB).map fun q=>(tlB q).data.toList.headD 0)→mkB ([a,c]++(tlB p).data.toList)∉(L.filter fun q=>!stB q)→∃ y,comp y.data.toList=true∧mpOk p y=true∧∀ q∈L,mpOk q y=false:=by
    intro a c ha hc hnc hE
    obtain ⟨k1,k2⟩:=key a [c] (oneB_is ha) (by simp [allB_is hc])
    refine ⟨_,k1,k2,fun q hq=>?_⟩
    cases hsq:stB q with
    | false=>exact lit hq hsq hE
    | true =>
     cases hm:mpOk q (mkB ([a,c]++(tlB p).data.toList)) with
     | false=>rfl
     | true =>
      exfalso
      obtain ⟨u,b,hu,hb,e,et⟩:=star_out hs hsq (hL q hq) hm
      cases u with
      | nil=>exact hu rfl
      | cons u0 u =>
       cases b with
       | nil=>exact hb rfl
       | cons b0 b =>
        have el:=congrArg List.length e
        simp at el
        have eu:u=[]:=List.eq_nil_of_length_eq_zero (by omega)
        have eb:b=[]:=List.eq_nil_of_length_eq_zero (by omega)
        subst eu eb
        have e2:c=b0:=by simpa using (List.cons.inj e).2
        subst e2
        exact hnc (List.mem_map.2 ⟨q,List.mem_filter.2 ⟨hq,hsq⟩,by rw [et];rfl⟩)
   rcases List.mem_append.1 hy with hy|hy
   ·obtain ⟨a,ha,rfl⟩:=List.mem_map.1 hy
    exact fin ha hc1 n1 hE
   ·obtain ⟨a,ha,rfl⟩:=List.mem_map.1 hy
    exact fin ha hc2 n4 hE
theorem choose_list {n:Nat} {P:Nat→ByteArray→Prop} (h:∀ i,i<n→∃ y,P i y):∃ ys:List ByteArray,ys.length=n∧∀ i y,ys[i]? = some y→P i y:=by
 induction n with
 | zero=>exact ⟨[],rfl,fun i y hy=>by simp at hy⟩
 | succ n ih =>
  obtain ⟨ys,h1,h2⟩:=ih fun i hi=>h i (by omega)
  obtain ⟨y,hy⟩:=h n (by omega)
  refine ⟨ys++[y],by simp [h1],fun i z hz=>?_⟩
  rcases Nat.lt_or_ge i n with hlt|hge
  ·rw [List.getElem?_append_left (by omega)] at hz
   exact h2 i z hz
  ·rw [List.getElem?_append_right (by omega)] at hz
   have hi:i-ys.length=0:=by
    rcases Nat.eq_zero_or_pos (i-ys.length) with e|e
    ·exact e
    ·rw [List.getElem?_eq_none (by simp;omega)] at hz;cases hz
   rw [hi] at hz
   have e1:y=z:=by simpa using hz
   have e2:i=n:=by omega
   rw [e2,← e1]
   exact hy
theorem void_exact {b:Pn} {hs:List Pn} (hb:okPn b) (hl:hs.length≤129) {n:Nat} (h1:firstN b≤n) (h2:b.2=false→n=b.1.length) (ht:takenB b hs n=false):∃ s,mt b s=true∧hs.any (mt · s)=false:=by
 have hk:=check_zero hb
 have hf2:2≤firstN b:=by
  unfold firstN
  split
  ·have:=hk.1;omega
  ·rename_i hr
   rcases Nat.lt_or_ge b.1.length 2 with h|h
   ·exfalso
    have h0:=hk.1
    have h1:b.1.length=1:=by omega
    have hb2:checkP b.1 b.2=0:=hb
    unfold checkP at hb2
    rw [if_pos (.inr ⟨h1,by simpa using hr⟩)] at hb2
    cases hb2
   ·exact h
 have hpa:∀ i,partB (partA b i)=true:=fun i=>by
  unfold partA
  cases hx:b.1[i]? with
  | none=>exact starT_part
  | some x=>exact parts_all hk.2.2 x (mG hx)
 obtain ⟨ys,hyl,hys⟩:=choose_list (n:=n) (P:=fun i y=>comp y.data.toList=true∧mpOk (partA b i) y=true∧∀ h∈hs,∀ q,h.1[i]? = some q→insB (partA b i) q=false→mpOk q y=false) (fun i _=>by
  obtain ⟨y,k1,k2,k3⟩:=part_out (p:=partA b i) (L:=(hs.filterMap fun h=>h.1[i]?).filter fun q=>!insB (partA b i) q) (hpa i) (fun q hq=>by simpa using (List.mem_filter.1 hq).2) (Nat.le_trans (List.length_filter_le _ _) (Nat.le_trans (List.length_filterMap_le _ _) hl))
  exact ⟨y,k1,k2,fun h hh q hq hi=>k3 q (List.mem_filter.2 ⟨List.mem_filterMap.2 ⟨h,hh,hq⟩,by rw [hi];rfl⟩)⟩)
 have hcomp:∀ y∈ys,comp y.data.toList=true:=fun y hy=>by
  obtain ⟨i,hi⟩:=List.mem_iff_getElem?.1 hy
  exact (hys i y hi).1
 have hcs:compsB (joinB ys)=ys:=joinB_comps (by intro e;rw [e] at hyl;simp at hyl;omega) hcomp
 have hp:pathOk (joinB ys).data.toList=true:=joinB_path (by omega) hcomp
 refine ⟨joinB ys,mt_iff.2 ⟨hp,hb,?_,fun k x y hx hy=>?_⟩,?_⟩
 ·rw [hcs,hyl]
  unfold firstN at h1
  refine ⟨?_,fun e=>?_,fun e=>(h2 e).symm⟩
  ·split at h1<;>omega
  ·rw [if_pos e] at h1;omega
 ·rw [hcs] at hy
  have:=(hys k y hy).2.1
  unfold partA at this
  rw [hx] at this
  exact this
 ·rw [List.any_eq_false]
  intro h hh hm
  obtain ⟨_,_,⟨m3,m4,m5⟩,m6⟩:=mt_iff.1 hm
  rw [hcs,hyl] at m3 m4 m5
  unfold takenB at ht
  rw [List.any_eq_false] at ht
  have h9:=ht h hh
  apply h9
  rw [Bool.and_eq_true]
  constructor
  ·unfold reachB
   cases hr:h.2 with
   | true =>
    have:=m4 hr
    simp [this]
   | false =>
    have:=m5 hr
    simp [this]
  ·unfold covB
   rw [List.all_eq_true]
   intro i hi
   have hi:=List.mem_range.1 hi
   rw [Bool.or_eq_true,Bool.or_eq_true,decide_eq_true_eq,decide_eq_true_eq]
   rcases Nat.lt_or_ge i h.1.length with hlt|hge
   ·refine .inr ?_
    have hq:h.1[i]? = some h.1[i]:=gE hlt
    rw [hq]
    show insB (partA b i) h.1[i]=true
    cases hI:insB (partA b i) h.1[i] with
    | true=>rfl
    | false =>
     have hyi:ys[i]? = some (ys[i]'(by omega)):=gE _
     have a1:=(hys i _ hyi).2.2 h hh _ hq hI
     have a2:=m6 i _ _ hq (by rw [hcs];exact hyi)
     rw [a1] at a2
     cases a2
   ·exact .inl (.inr hge)
open Pm
theorem voidF_exact {b:Pn} {hs:List Pn} (hb:okPn b) (hl:hs.length≤129) (hv:voidF b hs=false):∃ s,mt b s=true∧hs.any (mt · s)=false:=by
 unfold voidF leastF at hv
 rw [decide_eq_false_iff_not] at hv
 cases hf:(List.range (lastN b hs+1)).find? (fun n=>decide (firstN b≤n)&&!takenB b hs n) with
 | none=>rw [hf] at hv;exact absurd rfl hv
 | some n =>
  have h1:=List.find?_some hf
  have h2:=List.mem_range.1 (List.mem_of_find?_eq_some hf)
  rw [Bool.and_eq_true,decide_eq_true_eq,Bool.not_eq_true'] at h1
  refine void_exact hb hl h1.1 (fun hr=>?_) h1.2
  have h3:=h1.1
  unfold firstN at h3
  unfold lastN at h2
  rw [if_neg (by rw [hr];decide)] at h2 h3
  omega
theorem cmn_some {g k:Rg} (hg:okRg g) (hk:okRg k) (h:cmnF g k=true):∃ c,inR g c=true∧inR k c=true:=by
 unfold cmnF at h
 rw [Bool.and_eq_true,Bool.not_eq_true'] at h
 obtain ⟨c,h1,h2⟩:=voidF_exact (met_ok h.1) (by rw [List.length_append];have:=hg.2.2;have:=hk.2.2;omega) h.2
 rw [met_mt h.1,Bool.and_eq_true] at h1
 rw [List.any_append,Bool.or_eq_false_iff] at h2
 refine ⟨c,?_,?_⟩
 ·unfold inR;rw [h1.1,h2.1];rfl
 ·unfold inR;rw [h1.2,h2.2];rfl
def oneE (e f:En):Prop:=∀ s s' c c',relN e s c→relN f s' c'→s≠s'∧c≠c'
theorem lf_rel {e:En} (hk:okEn e) {s:ByteArray} (h:inR (lfR e) s=true):relN e s (fT e.1 e.2.1 s):=by
 refine ⟨h,?_,rfl⟩
 rw [fO_mt hk.1]
 unfold inR lfR at h
 exact (Bool.and_eq_true _ _▸h).1
theorem rt_rel {e:En} (hk:okEn e) (hn:nrsE e.1 e.2.1 e.2.2=false) {c:ByteArray} (h:inR (rtR e) c=true):∃ s,relN e s c:=by
 unfold inR rtR at h
 rw [Bool.and_eq_true] at h
 obtain ⟨h1,h2⟩:=f_turn (show fO e.2.1 e.1 c=true by rw [fO_mt (rlOk_turn.1 hk.1)];exact h.1) rfl
 refine ⟨fT e.2.1 e.1 c,?_,h1,h2⟩
 unfold inR
 rw [←fO_mt hk.1,h1,← nrs_any hn h1 h2]
 exact h.2
theorem chk_one {m:List En} (hok:∀ e∈m,okEn e) (h1:m.Pairwise oneE):chkM m=0∨chkM m=72:=by
 unfold chkM
 cases hr:rgtsE m with
 | true=>rw [if_pos rfl];exact .inr rfl
 | false =>
  rw [if_neg (by decide)]
  cases ho:ovl m with
  | false=>rw [if_neg (by decide)];exact .inl rfl
  | true =>
   exfalso
   unfold ovl at ho
   obtain ⟨i,hi,ho⟩:=List.any_eq_true.1 ho
   unfold ovlI at ho
   obtain ⟨j,hj,ho⟩:=List.any_eq_true.1 ho
   have hi:=List.mem_range.1 hi
   have hj:=List.mem_range.1 hj
   rw [gE hi,gE (by omega:j<m.length)] at ho
   simp only at ho
   have ke:=hok _ (List.getElem_mem hi)
   have kf:=hok _ (List.getElem_mem (by omega:j<m.length))
   have hone:=List.pairwise_iff_getElem.1 h1 j i (by omega) hi hj
   have hn:∀ e∈m,nrsE e.1 e.2.1 e.2.2=false:=fun e he=>by
    unfold rgtsE at hr
    rw [List.any_eq_false] at hr
    simpa using hr e he
   unfold badE at ho
   rw [Bool.or_eq_true] at ho
   rcases ho with ho|ho
   ·obtain ⟨c,c1,c2⟩:=cmn_some (lfR_ok ke) (lfR_ok kf) ho
    exact (hone _ _ _ _ (lf_rel kf c2) (lf_rel ke c1)).1 rfl
   ·obtain ⟨c,c1,c2⟩:=cmn_some (rtR_ok ke) (rtR_ok kf) ho
    obtain ⟨s,r1⟩:=rt_rel ke (hn _ (List.getElem_mem hi)) c1
    obtain ⟨s',r2⟩:=rt_rel kf (hn _ (List.getElem_mem (by omega:j<m.length))) c2
    exact (hone _ _ _ _ r2 r1).2 rfl
theorem inv_e72 {m:List En} (hc:chkM m=0∨chkM m=72):invE m=0∨invE m=72:=by
 unfold invE
 split
 ·split
  ·exact .inr rfl
  ·split
   ·exact .inr rfl
   ·exact .inl rfl
 ·rename_i h
  exact hc.elim (fun h2=>absurd h2 h) .inr
def disR (q q':Pc):Prop:=∀ c,¬ (inR q.1 c=true∧inR q'.1 c=true)
theorem row_dis {name:ByteArray} {ps:List Ln} {ab:List Pc} (ha:ab.Pairwise disR):∀ (n:Nat) (r:List Pc),rowQ name ps ab n=some r→r.Pairwise disR
 | 0,r,h=>by cases h;exact List.Pairwise.nil
 | n+1,r,h=>by
  cases hp:ps[n]? with
  | none =>
   have e:rowQ name ps ab (n+1)=rowQ name ps ab n:=by
    show (match ps[n]? with|none=>rowQ name ps ab n|some p=>lineQ name ps ab (rowQ name ps ab n) n p)=_
    rw [hp]
   rw [e] at h
   exact row_dis ha n r h
  | some p =>
   rw [rowQ_succ hp] at h
   cases hr:rowQ name ps ab n with
   | none=>rw [hr,lineQ_none] at h;cases h
   | some r0 =>
    rw [hr] at h
    have ih:=row_dis ha n r0 hr
    have hm:=(row_mem n r0 hr).1
    unfold lineQ at h
    by_cases h4:p.1=4
    ·rw [if_pos h4] at h
     cases h
     exact ih
    ·rw [if_neg h4] at h
     obtain ⟨h5,_⟩:=fold_step ab r0 r h
     rw [h5,List.pairwise_append]
     refine ⟨ih,?_,fun a ha' b hb c hc=>?_⟩
     ·refine List.Pairwise.filterMap _ (fun q q' hd b hb b' hb' c hc=>?_) ha
      unfold pieceO at hb hb'
      split at hb
      ·rename_i o1
       split at hb'
       ·rename_i o2
        cases hb
        cases hb'
        have c1:inR (rmB (ownR ps n p) q.1) c=true:=hc.1
        have c2:inR (rmB (ownR ps n p) q'.1) c=true:=hc.2
        rw [rm_in o1,Bool.and_eq_true] at c1
        rw [rm_in o2,Bool.and_eq_true] at c2
        exact hd c ⟨c1.2,c2.2⟩
       ·cases hb'
      ·cases hb
     ·obtain ⟨k,p',q',hk,hpk,_,_,o1,rfl⟩:=(hm a).1 ha'
      obtain ⟨q2,hq2,hb⟩:=List.mem_filterMap.1 hb
      unfold pieceO at hb
      split at hb
      ·rename_i o2
       cases hb
       have c1:inR (rmB (ownR ps k p') q'.1) c=true:=hc.1
       have c2:inR (rmB (ownR ps n p) q2.1) c=true:=hc.2
       rw [rm_in o1,Bool.and_eq_true] at c1
       rw [rm_in o2,Bool.and_eq_true] at c2
       have d1:=c1.1
       have d2:=c2.1
       unfold ownR at d1 d2
       rw [inR_red] at d1 d2
       unfold inR at d1 d2
       rw [Bool.and_eq_true,Bool.not_eq_true',List.any_eq_false] at d1
       rw [Bool.and_eq_true] at d2
       refine d1.2 p.2.1 ?_ d2.1
       unfold laterL
       refine List.mem_map.2 ⟨p,List.mem_iff_getElem?.2 ⟨n-(k+1),?_⟩,rfl⟩
       rw [List.getElem?_drop]
       have e:k+1+(n-(k+1))=n:=by omega
       rw [e]
       exact hp
      ·cases hb
theorem pcs_dis {l:List St}:∀ {n i:Nat} {ps:List Pc},pcsF l n i=some ps→ps.Pairwise disR
 | 0,i,ps,h=>by cases h
 | n+1,i,ps,h=>by
  unfold pcsF at h
  split at h
  ·cases h
  ·split at h
   ·cases h
   ·rename_i ab hab
    refine row_dis ?_ _ _ h
    cases hp:parS l i with
    | some p =>
     rw [hp] at hab
     exact pcs_dis hab
    | none =>
     rw [hp] at hab
     cases hab
     exact List.pairwise_singleton _ _
theorem view_one {l:List St} (hg:GoodS l) {i:Nat} (hi:i<l.length) {ps:List Pc} (h:vwF l l.length i=some ps):(ps.map entF).Pairwise oneE:=by
 obtain ⟨h1,h2⟩:=vw_parts h
 have hp:=pcs_ok hg _ _ _ h1
 rw [List.pairwise_map]
 refine (pcs_dis h1).imp_of_mem fun {q q'} hq hq' hd s s' c c' r r'=>?_
 obtain ⟨a1,a2,a3⟩:=(ent_rel (hp.ok q hq) (h2 q hq)).1 r
 obtain ⟨b1,b2,b3⟩:=(ent_rel (hp.ok q' hq') (h2 q' hq')).1 r'
 have hc:c≠c':=fun e=>hd c ⟨a1,e▸b1⟩
 refine ⟨fun e=>hc ?_,hc⟩
 have v1:=hp.val c q hq a1
 have v2:=hp.val c' q' hq' b1
 have nz:∀ {q:Pc},q∈ps→q.2.1≠0:=fun hq e=>by rcases (hp.ok _ hq).kd with h|h|h<;>omega
 refine see_inj hg hi (s:=s) ⟨?_,?_⟩ ⟨?_,?_⟩
 ·have:(seeF l c l.length i).1=q.2.1:=v1.1
  rw [this];exact nz hq
 ·exact v1.2.2.symm.trans a3
 ·have:(seeF l c' l.length i).1=q'.2.1:=v2.1
  rw [this];exact nz hq'
 ·rw [e];exact v2.2.2.symm.trans b3
theorem inv_one2 {m:List En} (hok:∀ e∈m,okEn e) (h1:m.Pairwise oneE) (hi:invE m=0):(invC m).1.Pairwise oneE:=by
 obtain ⟨k1,k2,k3⟩:=inv_list hi
 rw [k2]
 have hm:m.Pairwise fun e f=>(e∈m∧f∈m)∧oneE e f:=h1.imp_of_mem fun ha hb h=>⟨⟨ha,hb⟩,h⟩
 refine List.Pairwise.filterMap _ (fun e f hef x hx y hy s s' c c' r r'=>?_) hm
 obtain ⟨⟨he,hf⟩,ho⟩:=hef
 have a:=(inv_one (hok e he) (chkM_zero k1 e he) (k3 e he)).1 ⟨x,hx,r⟩
 have b:=(inv_one (hok f hf) (chkM_zero k1 f hf) (k3 f hf)).1 ⟨y,hy,r'⟩
 have:=ho _ _ _ _ a b
 exact ⟨this.2,this.1⟩
def cmX (e f:En):Option En:=if chO' e f=true then putO (chPL e f) (chPR e f) (chH e f) else none
def cmQ (a b:List En) (q:Nat):Option En:=match prI a b q with|some x=>cmX x.1 x.2|none=>none
theorem cmpS_O (s:List En×Bool) (e f:En):cmpS s e f=addO s (cmX e f):=by
 unfold cmpS cmX
 split
 ·exact putC_O _ _ _ _
 ·rfl
theorem cmp_list {a b:List En} (h:cmpE a b=0):chkM a=0∧chkM b=0∧(cmpL a b).1=(List.range (a.length * b.length)).filterMap (cmQ a b)∧∀ e∈a,∀ f∈b,cmpB e f=false:=by
 unfold cmpE at h
 by_cases h1:chkMs [a,b]=0
 ·rw [if_pos h1] at h
  by_cases h2:prA cmpB a b=true
  ·rw [if_pos h2] at h;cases h
  ·rw [if_neg h2] at h
   by_cases h3:(cmpL a b).2=true
   ·rw [if_pos h3] at h;cases h
   ·refine ⟨(chk2 h1).1,(chk2 h1).2,?_,fun e he f hf=>prA_false (by simpa using h2) he hf⟩
    have e1:cmpL a b=(List.range (a.length * b.length)).foldl (fun s q=>addO s (cmQ a b q)) ([],false):=by
     unfold cmpL cmpC prC
     congr 1
     funext s q
     unfold cmQ
     cases prI a b q with
     | none=>rfl
     | some x=>exact cmpS_O s x.1 x.2
    rw [e1] at h3 ⊢
    have:=(foldO (cmQ a b) _ ([],false) (by simpa using h3)).2
    rw [this,List.nil_append]
 ·rw [if_neg h1] at h;exact absurd h h1
theorem cmp_e72 {a b:List En} (ha:chkM a=0∨chkM a=72) (hb:chkM b=0∨chkM b=72):cmpE a b=0∨cmpE a b=72:=by
 have hm:chkMs [a,b]=0∨chkMs [a,b]=72:=by
  have e:chkMs [a,b]=if chkM a=0 then (if chkM b=0 then 0 else chkM b) else chkM a:=rfl
  rw [e]
  split
  ·split
   ·exact .inl rfl
   ·rename_i h;exact hb.elim (fun h2=>absurd h2 h) .inr
  ·rename_i h;exact ha.elim (fun h2=>absurd h2 h) .inr
 unfold cmpE
 split
 ·split
  ·exact .inr rfl
  ·split
   ·exact .inr rfl
   ·exact .inl rfl
 ·rename_i h
  exact hm.elim (fun h2=>absurd h2 h) .inr
theorem ch_ok {e f:En} (ho:chO' e f=true):rlOk (chPL e f) (chPR e f):=ch_rule ho
theorem ch_fwd {e f:En} {c:ByteArray} (hb:cmpB e f=false) :
 (chO' e f=false→(fO e.1 e.2.1 c&&fO f.1 f.2.1 (fT e.1 e.2.1 c))=false) ∧
 (chO' e f=true→fO (chPL e f) (chPR e f) c=(fO e.1 e.2.1 c&&fO f.1 f.2.1 (fT e.1 e.2.1 c))∧(fO (chPL e f) (chPR e f) c=true→fT (chPL e f) (chPR e f) c=fT f.1 f.2.1 (fT e.1 e.2.1 c))):=by
 unfold cmpB at hb
 rw [Bool.or_eq_false_iff] at hb
 have he:chN e f=0:=by simpa using hb.1
 obtain ⟨h1,h2⟩:=ch_means (s:=c) he
 refine ⟨h1,fun ho=>?_⟩
 obtain ⟨h3,h4⟩:=h2 ho
 refine ⟨h3,fun h5=>?_⟩
 have h6:(fwdO e.1.1 e.1.2 e.2.1.1 e.2.1.2 c&&fwdO f.1.1 f.1.2 f.2.1.1 f.2.1.2 (fwdT e.1.1 e.1.2 e.2.1.1 e.2.1.2 c))=true:=h3▸h5
 exact h4.trans (if_pos h6)
theorem cmX_rel {e f:En} {c t:ByteArray} (ke:okEn e) (kf:okEn f) (hb:cmpB e f=false):(∃ x,cmX e f=some x∧relN x c t)↔∃ s,relN e c s∧relN f s t:=by
 obtain ⟨w1,w2⟩:=ch_fwd (c:=c) hb
 unfold cmX
 cases ho:chO' e f with
 | false =>
  rw [if_neg (by decide)]
  refine ⟨fun ⟨x,h,_⟩=>(by cases h),fun ⟨s,⟨_,r1,r2⟩,_,r3,_⟩=>?_⟩
  have:=w1 ho
  rw [r1,r2,r3] at this
  cases this
 | true =>
  obtain ⟨w3,w4⟩:=w2 ho
  have hk:=ch_ok ho
  unfold cmpB at hb
  rw [Bool.or_eq_false_iff,ho,Bool.true_and,Bool.or_eq_false_iff] at hb
  rw [if_pos rfl,putO_rel hk.okl hb.2.2]
  have hols:fO e.1 e.2.1 c=true→(chH e f).any (mt · c)=(e.2.2.any (mt · c) || f.2.2.any (mt · (fT e.1 e.2.1 c))):=fun h=>by
   obtain ⟨a1,a2⟩:=f_turn h rfl
   unfold chH
   rw [List.any_append,nrs_any hb.2.1 a1 a2]
  unfold relN
  constructor
  ·rintro ⟨h1,h2,h3⟩
   have h4:=w4 h2
   rw [w3,Bool.and_eq_true] at h2
   unfold inR at h1
   rw [Bool.and_eq_true] at h1
   simp only at h1
   rw [hols h2.1,Bool.not_or,Bool.and_eq_true] at h1
   refine ⟨_,⟨?_,h2.1,rfl⟩,?_,h2.2,h4.symm.trans h3⟩
   ·unfold inR
    rw [←fO_mt ke.1,h2.1,h1.2.1]
    rfl
   ·unfold inR
    rw [←fO_mt kf.1,h2.2,h1.2.2]
    rfl
  ·rintro ⟨s,⟨a1,a2,a3⟩,b1,b2,b3⟩
   subst a3
   have h2:fO (chPL e f) (chPR e f) c=true:=by rw [w3,a2,b2];rfl
   refine ⟨?_,h2,(w4 h2).trans b3⟩
   unfold inR at a1 b1 ⊢
   rw [Bool.and_eq_true] at a1 b1
   simp only at a1 b1 ⊢
   rw [←fO_mt hk,h2,hols a2,Bool.not_or,a1.2,b1.2]
   rfl
theorem cm_pair {a b:List En} {q:Nat} {x:En} (h:cmQ a b q=some x):∃ e f,prI a b q=some (e,f)∧e∈a∧f∈b∧cmX e f=some x:=by
 unfold cmQ at h
 cases hp:prI a b q with
 | none=>rw [hp] at h;cases h
 | some y =>
  rw [hp] at h
  obtain ⟨e,f⟩:=y
  obtain ⟨m1,m2⟩:=prI_mem hp
  exact ⟨e,f,rfl,mG m1,mG m2,h⟩
theorem cmp_rel {a b:List En} (ha:∀ e∈a,okEn e) (hb:∀ e∈b,okEn e) (h:cmpE a b=0) (c t:ByteArray):relE (cmpL a b).1 c t↔∃ s,relE a c s∧relE b s t:=by
 obtain ⟨_,_,hl,hB⟩:=cmp_list h
 unfold relE
 rw [hl]
 constructor
 ·rintro ⟨x,hx,hr⟩
  obtain ⟨q,hq,hQ⟩:=List.mem_filterMap.1 hx
  obtain ⟨e,f,hp,he,hf,hX⟩:=cm_pair hQ
  obtain ⟨s,r1,r2⟩:=(cmX_rel (ha e he) (hb f hf) (hB e he f hf)).1 ⟨x,hX,hr⟩
  exact ⟨s,⟨e,he,r1⟩,f,hf,r2⟩
 ·rintro ⟨s,⟨e,he,r1⟩,f,hf,r2⟩
  obtain ⟨x,hX,hr⟩:=(cmX_rel (ha e he) (hb f hf) (hB e he f hf)).2 ⟨s,r1,r2⟩
  obtain ⟨j,hj⟩:=List.mem_iff_getElem?.1 he
  obtain ⟨k,hk⟩:=List.mem_iff_getElem?.1 hf
  obtain ⟨q1,q2⟩:=prI_at hj hk
  refine ⟨x,List.mem_filterMap.2 ⟨_,List.mem_range.2 q1,?_⟩,hr⟩
  unfold cmQ
  rw [q2]
  exact hX
end Go.Proofs.YtelkmeiepliecaaGreatDoor
