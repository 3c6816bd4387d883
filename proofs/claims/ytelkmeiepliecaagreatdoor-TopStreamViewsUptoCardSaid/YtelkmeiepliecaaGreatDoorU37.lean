/-
  Part 37 of the proof.
-/
import Derived.Test.YtelkmeiepliecaaGreatDoorU36
set_option linter.unusedSimpArgs false
set_option linter.unusedVariables false
set_option maxHeartbeats 16000000
namespace Go.Proofs.YtelkmeiepliecaaGreatDoor
open Pm
def relN (e:En) (s c:ByteArray):Prop:=inR (e.1,e.2.2) s=true∧fO e.1 e.2.1 s=true∧fT e.1 e.2.1 s=c
def relE (m:List En) (s c:ByteArray):Prop:=∃ e∈m,relN e s c
def addO {α:Type} (s:List α×Bool):Option α→List α×Bool
 | none=>s
 | some x=>addC s x
theorem addO_full {α:Type} {s:List α×Bool} {o:Option α} (h:(addO s o).2=false):s.2=false∧(addO s o).1=s.1++o.toList:=by
 cases o with
 | none=>exact ⟨h,by simp [addO]⟩
 | some x =>
  have e:addO s (some x)=if s.1.length=32 then (s.1,true) else (s.1++[x],s.2):=rfl
  rw [e] at h ⊢
  by_cases h1:s.1.length=32
  ·rw [if_pos h1] at h;cases h
  ·rw [if_neg h1] at h ⊢
   exact ⟨h,rfl⟩
theorem foldO {α β:Type} (f:β→Option α):∀ (m:List β) (s:List α×Bool),(m.foldl (fun s e=>addO s (f e)) s).2=false→s.2=false∧(m.foldl (fun s e=>addO s (f e)) s).1=s.1++m.filterMap f
 | [],s,h=>⟨h,by simp⟩
 | e::m,s,h=>by
  rw [List.foldl_cons] at h ⊢
  obtain ⟨h1,h2⟩:=foldO f m _ h
  obtain ⟨h3,h4⟩:=addO_full h1
  refine ⟨h3,?_⟩
  rw [h2,h4,List.append_assoc]
  congr 1
  cases hf:f e with
  | none=>simp [hf]
  | some x=>simp [hf]
def putO (l r:Pn) (ps:List Pn):Option En:=if (!rdE l ps&&!voidF l (redH l ps))=true then some (l,r,redH l ps) else none
theorem putC_O (s:List En×Bool) (l r:Pn) (ps:List Pn):putC s l r ps=addO s (putO l r ps):=by
 unfold putC putO
 split<;>rfl
theorem putO_rel {l r:Pn} {ps:List Pn} {s c:ByteArray} (hl:okPn l) (hr:rdE l ps=false):(∃ x,putO l r ps=some x∧relN x s c)↔(inR (l,ps) s=true∧fO l r s=true∧fT l r s=c):=by
 unfold putO
 rw [hr,Bool.not_false,Bool.true_and]
 cases hv:voidF l (redH l ps) with
 | false =>
  rw [if_pos (by rfl)]
  constructor
  ·rintro ⟨x,e,h⟩
   cases e
   unfold relN at h
   rw [←inR_red]
   exact h
  ·intro h
   refine ⟨_,rfl,?_⟩
   unfold relN
   rw [inR_red]
   exact h
 | true =>
  rw [if_neg (by simp)]
  constructor
  ·rintro ⟨x,e,_⟩
   cases e
  ·rintro ⟨h,_⟩
   exfalso
   rw [←inR_red] at h
   unfold inR at h
   rw [Bool.and_eq_true] at h
   have:=voidF_sound redH_ok hl hv h.1
   rw [this] at h
   exact absurd h.2 (by simp)
theorem putO_ok {l r:Pn} {ps:List Pn} {x:En} (h:putO l r ps=some x) (hk:rlOk l r):x.1=l∧x.2.1=r∧x.2.2=redH l ps∧okEn x:=by
 unfold putO at h
 split at h
 ·rename_i hc
  cases h
  rw [Bool.and_eq_true] at hc
  refine ⟨rfl,rfl,rfl,hk,hk.okl,redH_ok,?_⟩
  have:=hc.1
  unfold rdE at this
  simp only [Bool.not_eq_true',decide_eq_false_iff_not] at this
  show (redH l ps).length≤64
  omega
 ·cases h
def invO (e:En):Option En:=putO e.2.1 e.1 (nrsR e.1 e.2.1 e.2.2)
theorem inv_list {m:List En} (h:invE m=0):chkM m=0∧(invC m).1=m.filterMap invO∧∀ e∈m,rdE e.2.1 (nrsR e.1 e.2.1 e.2.2)=false:=by
 unfold invE at h
 by_cases h1:chkM m=0
 ·rw [if_pos h1] at h
  by_cases h2:invF m=true
  ·rw [if_pos h2] at h;cases h
  ·rw [if_neg h2] at h
   by_cases h3:(invC m).2=true
   ·rw [if_pos h3] at h;cases h
   ·refine ⟨h1,?_,fun e he=>?_⟩
    ·have e1:invC m=m.foldl (fun s e=>addO s (invO e)) ([],false):=by
      unfold invC
      congr 1
      funext s e
      exact putC_O _ _ _ _
     rw [e1] at h3 ⊢
     have:=(foldO invO m ([],false) (by simpa using h3)).2
     rw [this,List.nil_append]
    ·unfold invF at h2
     rw [Bool.not_eq_true,List.any_eq_false] at h2
     simpa using h2 e he
 ·rw [if_neg h1] at h;exact absurd h h1
theorem inv_one {e:En} {s c:ByteArray} (hk:okEn e) (hn:nrsE e.1 e.2.1 e.2.2=false) (hr:rdE e.2.1 (nrsR e.1 e.2.1 e.2.2)=false):(∃ x,invO e=some x∧relN x c s)↔relN e s c:=by
 unfold invO
 rw [putO_rel hk.1.okr hr]
 unfold relN
 constructor
 ·rintro ⟨h1,h2,h3⟩
  obtain ⟨h4,h5⟩:=f_turn h2 h3
  refine ⟨?_,h4,h5⟩
  unfold inR at h1 ⊢
  rw [nrs_any hn h4 h5,Bool.and_eq_true] at h1
  rw [←fO_mt hk.1,h4,Bool.true_and]
  exact h1.2
 ·rintro ⟨h1,h2,h3⟩
  obtain ⟨h4,h5⟩:=f_turn h2 h3
  refine ⟨?_,h4,h5⟩
  unfold inR at h1 ⊢
  rw [nrs_any hn h2 h3,← fO_mt (rlOk_turn.1 hk.1),h4,Bool.true_and]
  rw [Bool.and_eq_true] at h1
  exact h1.2
theorem inv_rel {m:List En} {s c:ByteArray} (hok:okM m) (h:invE m=0):relE (invC m).1 c s↔relE m s c:=by
 obtain ⟨h1,h2,h3⟩:=inv_list h
 unfold relE
 rw [h2]
 constructor
 ·rintro ⟨x,hx,hr⟩
  obtain ⟨e,he,ho⟩:=List.mem_filterMap.1 hx
  exact ⟨e,he,(inv_one (hok.1 e he).1 (chkM_zero h1 e he) (h3 e he)).1 ⟨x,ho,hr⟩⟩
 ·rintro ⟨e,he,hr⟩
  obtain ⟨x,ho,hr⟩:=(inv_one (hok.1 e he).1 (chkM_zero h1 e he) (h3 e he)).2 hr
  exact ⟨x,List.mem_filterMap.2 ⟨e,he,ho⟩,hr⟩
theorem regH_in {e:En} (hk:okEn e) (s:ByteArray):regH e.1 e.2.2 s=inR (e.1,e.2.2) s:=by
 unfold regH inR
 rw [decide_eq_true (regE_ok hk.2),Bool.true_and]
theorem forL_rel {m:List En} {s:ByteArray} (hok:∀ e∈m,okEn e):((forL m s).2=true→relE m s (forL m s).1)∧((forL m s).2=false→(forL m s).1=⟨#[]⟩∧∀ c,¬ relE m s c):=by
 induction m with
 | nil =>
  refine ⟨fun h=>(by cases h),fun _=>⟨rfl,?_⟩⟩
  rintro c ⟨e,he,_⟩
  cases he
 | cons e m ih =>
  have hk:=hok e List.mem_cons_self
  have ih:=ih fun x hx=>hok x (List.mem_cons_of_mem _ hx)
  have hr:=regH_in hk s
  unfold forL
  cases hc:regH e.1 e.2.2 s with
  | true =>
   rw [if_pos rfl]
   rw [hc] at hr
   have hf:fO e.1 e.2.1 s=true:=by
    rw [fO_mt hk.1]
    unfold inR at hr
    exact (Bool.and_eq_true _ _▸hr.symm).1
   refine ⟨fun _=>⟨e,List.mem_cons_self,hr.symm,hf,rfl⟩,fun h=>?_⟩
   have:(forE e s).2=true:=hf
   rw [this] at h
   cases h
  | false =>
   rw [if_neg (by decide)]
   rw [hc] at hr
   refine ⟨fun h=>?_,fun h=>⟨(ih.2 h).1,?_⟩⟩
   ·obtain ⟨x,hx,h1⟩:=ih.1 h
    exact ⟨x,List.mem_cons_of_mem _ hx,h1⟩
   ·rintro c ⟨x,hx,h1⟩
    rcases List.mem_cons.1 hx with rfl|hx
    ·rw [h1.1] at hr;cases hr
    ·exact (ih.2 h).2 c ⟨x,hx,h1⟩
open Pm
theorem viewN_st:stB viewN=false:=by decide +kernel
theorem ba_eq {a b:ByteArray} (h:a.data.toList=b.data.toList):a=b:=by rw [←mkB_back a,← mkB_back b,h]
theorem allP_ok:okPn allP:=by
 unfold okPn
 decide +kernel
theorem first_view {p:Pn} {c:ByteArray} (hv:p.1.getD 0 ⟨#[]⟩=viewN) (hm:mt p c=true):∃ t y u,p.1=viewN::t∧compsB c=viewN::y::u∧joinB (compsB c)=c∧pathOk c.data.toList=true∧(∀ z∈compsB c,comp z.data.toList=true):=by
 have hok:checkP p.1 p.2=0:=(mt_iff.1 hm).2.1
 obtain ⟨_,hf,hj⟩:=match_fil hm
 have h2:=fil_two hok hf
 have hcp:=hf.comps (parts_all (check_zero hok).2.2)
 cases hp:p.1 with
 | nil=>rw [hp] at hv;exact absurd hv (by decide +kernel)
 | cons x t =>
  rw [hp] at hv hf
  have hx:x=viewN:=by simpa using hv
  subst hx
  obtain ⟨l',e,hf'⟩:=(Fil.lit viewN_st).1 hf
  rw [e] at h2
  cases l' with
  | nil=>simp at h2
  | cons y u=>exact ⟨t,y,u,rfl,e,hj,(mt_iff.1 hm).1,hcp⟩
theorem mt_all {p:Pn} {c:ByteArray} (hv:p.1.getD 0 ⟨#[]⟩=viewN) (hm:mt p c=true):mt allP c=true:=by
 obtain ⟨t,y,u,_,h2,_,h4,_⟩:=first_view hv hm
 rw [mt_iff]
 refine ⟨h4,allP_ok,⟨?_,fun _=>?_,fun h=>?_⟩,fun k a b ha hb=>?_⟩
 ·rw [h2];simp [allP]
 ·rw [h2];simp [allP]
 ·cases h
 ·cases k with
  | zero =>
   have:a=viewN:=by simpa [allP] using ha.symm
   subst this
   rw [h2] at hb
   have:b=viewN:=by simpa using hb.symm
   subst this
   decide +kernel
  | succ k=>simp [allP] at ha
theorem join_cons2 (x y:ByteArray) (u:List ByteArray):∃ T,∀ x:ByteArray,(joinB (x::y::u)).data.toList=[47,47]++(x.data.toList++T):=by
 refine ⟨Lib.joinTail [47] (datj (y::u)),fun x=>?_⟩
 unfold joinB
 rw [mkB_data]
 unfold joinL
 rw [show datj (x::y::u)=x.data.toList::datj (y::u) from rfl,Lib.join_cons]
 rfl
def stoB (name c:ByteArray):ByteArray:=rootB++name++c.extract 6 c.size
theorem stoB_join (name y:ByteArray) (u:List ByteArray):stoB name (joinB (viewN::y::u))=joinB (name::y::u):=by
 obtain ⟨T,hT⟩:=join_cons2 name y u
 apply ba_eq
 unfold stoB
 rw [app_data,app_data,Lib.extract_to_end,hT,hT]
 have:rootB.data.toList=[47,47]:=by decide +kernel
 have h2:viewN.data.toList=[118,105,101,119]:=by decide +kernel
 rw [this,h2]
 simp
theorem sto_ok {p:Pn} {name:ByteArray} (hp:okPn p) (hn:comp name.data.toList=true):rlOk p (stoP p name):=by
 cases he:p.1 with
 | nil=>have:=(check_zero hp).1;rw [he] at this;cases this
 | cons x t =>
  have hs:(stoP p name).1=name::t:=by unfold stoP;rw [he];rfl
  have h0:checkP (x::t) p.2=0:=by rw [←he];exact hp
  have hc:=check_zero h0
  have hpt:=hc.2.2
  unfold partsOk at hpt
  rw [Bool.and_eq_true] at hpt
  have hk:checkP (name::t) p.2=0:=by
   unfold checkP at h0 ⊢
   have hpo:partsOk (name::t)=true:=by show (comp name.data.toList&&t.all partB)=true;rw [hn,hpt.2];rfl
   rw [hc.2.2] at h0
   rw [hpo]
   exact h0
  unfold rlOk
  rw [ruleE_zero,hs,he]
  refine ⟨h0,hk,?_,rfl⟩
  rw [cnt_lit (comp_42 hpt.1),cnt_lit (comp_42 hn)]
theorem sto_fwd {p:Pn} {name c:ByteArray} (hv:p.1.getD 0 ⟨#[]⟩=viewN) (hn:comp name.data.toList=true) (hm:mt p c=true):fO p (stoP p name) c=true∧fT p (stoP p name) c=stoB name c:=by
 have hok:checkP p.1 p.2=0:=(mt_iff.1 hm).2.1
 obtain ⟨t,y,u,h1,h2,h3,_⟩:=first_view hv hm
 obtain ⟨_,hf,_⟩:=match_fil hm
 have hs:(stoP p name).1=name::t:=by unfold stoP;rw [h1];rfl
 have hf0:=hf
 rw [h1,h2] at hf
 obtain ⟨l',e,hf'⟩:=(Fil.lit viewN_st).1 hf
 cases e
 have hk:Fil (stoP p name).1 (stoP p name).2 (capsB stB mpCap p.1 p.2 c) (name::y::u):=by
  rw [hs]
  exact (Fil.lit (comp_42 hn)).2 ⟨_,rfl,h1▸hf'⟩
 have:=fwd_mk (sto_ok hok hn) hf0 hk
 rw [h3] at this
 refine ⟨this.1,this.2.trans ?_⟩
 have e:c=joinB (viewN::y::u):=by rw [←h2];exact h3.symm
 rw [e,stoB_join]
structure GoodS (l:List St):Prop where
 len:l.length≤16
 nm:∀ (i:Nat) (s:St),l[i]? = some s→nameOk s.1=true∧idxS l s.1=some i
 ln:∀ (i:Nat) (s:St),l[i]? = some s→s.2.2.length≤12∧∀ p∈s.2.2,lineOk p=true
 par:∀ (i:Nat) (s:St),l[i]? = some s→s.2.1.size≠0→idxS l s.2.1≠none
 cyc:∀ i:Nat,i<l.length→i∉abvS l i
 dep:∀ i:Nat,i<l.length→(abvS l i).length≤5
 bad:∀ (i:Nat) (s:St),l[i]? = some s→badL l i ((abvS l i).flatMap (impsI l)) s.2.2=false
theorem find_none {α:Type} {p:α→Bool} {l:List α} (h:l.find? p=none):∀ x∈l,p x=false:=fun x hx=>by
 have:=List.find?_eq_none.1 h x hx
 simpa using this
theorem first_zero {l:List Int} (h:(l.find? (· != 0)).getD 0=0):∀ x∈l,x=0:=fun x hx=>by
 cases hf:l.find? (· != 0) with
 | none=>simpa using find_none hf x hx
 | some y =>
  rw [hf] at h
  have h1:=List.find?_some hf
  have h2:y=0:=h
  rw [h2] at h1
  cases h1
theorem chk_steps {l:List St} (h:chkS l=0):l.length≤16∧∀ k i,k<5→i<l.length→stepE l k i=0:=by
 unfold chkS at h
 by_cases h1:16<l.length
 ·rw [if_pos h1] at h;cases h
 ·rw [if_neg h1] at h
  refine ⟨by omega,fun k i hk hi=>?_⟩
  have:=first_zero h _ (List.mem_map.2 ⟨k,List.mem_range.2 hk,rfl⟩)
  exact first_zero this _ (List.mem_map.2 ⟨i,List.mem_range.2 hi,rfl⟩)
theorem idxS_self {l:List St} {i:Nat} {s:St} (hs:l[i]? = some s):∃ j,idxS l s.1=some j∧j≤i:=by
 have hi:=(sI.1 hs).1
 cases hj:idxS l s.1 with
 | none =>
  exfalso
  have:=List.findIdx?_eq_none_iff.1 hj s (mG hs)
  simp at this
 | some j =>
  refine ⟨j,rfl,Nat.le_of_not_lt fun hlt=>?_⟩
  obtain ⟨_,_,h3⟩:=List.findIdx?_eq_some_iff_getElem.1 hj
  have:=h3 i hlt
  rw [(sI.1 hs).2] at this
  simp at this
theorem good_of {l:List St} (h:chkS l=0):GoodS l:=by
 obtain ⟨h1,h2⟩:=chk_steps h
 have lt:∀ {i:Nat} {s:St},l[i]? = some s→i<l.length:=fun hs=>(sI.1 hs).1
 have hits:∀ i s,l[i]? = some s→nameOk s.1=true∧idxS l s.1=some i∧s.2.2.length≤12∧∀ p∈s.2.2,lineOk p=true:=fun i s hs=>by
  have:=h2 0 i (by omega) (lt hs)
  unfold stepE itsE at this
  rw [hs] at this
  simp only at this
  split at this
  ·cases this
  ·rename_i h3
   split at this
   ·cases this
   ·rename_i h4
    split at this
    ·cases this
    ·rename_i h5
     split at this
     ·cases this
     ·rename_i h6
      obtain ⟨j,hj,hji⟩:=idxS_self hs
      rw [hj] at h4
      have hj2:j=i:=by
       have:¬ j<i:=h4
       omega
      refine ⟨by simpa using h3,by rw [hj,hj2],by omega,fun p hp=>?_⟩
      rw [Bool.not_eq_true,List.any_eq_false] at h5
      have:=h5 p hp
      simpa using this
 refine ⟨h1,fun i s hs=>⟨(hits i s hs).1,(hits i s hs).2.1⟩,fun i s hs=>⟨(hits i s hs).2.2.1,(hits i s hs).2.2.2⟩,fun i s hs h0 hn=>?_,fun i hi hm=>?_,fun i hi=>?_,fun i s hs=>?_⟩
 ·have:=h2 1 i (by omega) (lt hs)
  unfold stepE misE at this
  rw [hs] at this
  simp only at this
  rw [if_pos ⟨h0,hn⟩] at this
  cases this
 ·have:=h2 2 i (by omega) hi
  unfold stepE cycE at this
  simp only at this
  rw [if_pos (List.any_eq_true.2 ⟨i,hm,by simp⟩)] at this
  cases this
 ·have:=h2 3 i (by omega) hi
  unfold stepE depE at this
  simp only at this
  split at this
  ·cases this
  ·omega
 ·have:=h2 4 i (by omega) (lt hs)
  unfold stepE badE2 at this
  simp only at this
  rw [hs] at this
  simp only at this
  split at this
  ·cases this
  ·rename_i h3
   simpa using h3
theorem lineOk.parts {p:Ln} (h:lineOk p=true):okPn p.2.1∧p.2.1.1.getD 0 ⟨#[]⟩=viewN∧(p.1=1∨p.1=2∨p.1=3∨p.1=4)∧(p.1=3→rlOk p.2.1 p.2.2∧p.2.2.1.getD 0 ⟨#[]⟩≠viewN):=by
 unfold lineOk at h
 simp only [Bool.and_eq_true,decide_eq_true_eq] at h
 obtain ⟨⟨h1,h2⟩,h3⟩:=h
 refine ⟨h1,h2,?_,fun e=>?_⟩
 ·split at h3
  ·rename_i h4;omega
  ·split at h3
   ·rename_i h4;omega
   ·cases h3
 ·rw [if_neg (by omega),if_pos e] at h3
  simp only [Bool.and_eq_true,decide_eq_true_eq,Bool.not_eq_true',decide_eq_false_iff_not] at h3
  exact h3
theorem dec_some {ps:List Ln} {c:ByteArray} {p:Ln} (h:decS ps c=some p):∃ k,ps[k]? = some p∧inR (ownR ps k p) c=true:=by
 unfold decS at h
 obtain ⟨h1,i,hi,he,h3⟩:=List.find?_eq_some_iff_getElem.1 h
 have hl:i<ps.length:=by simpa using hi
 refine ⟨ps.length-1-i,?_,?_⟩
 ·rw [←he,List.getElem_reverse]
  exact gE _
 ·unfold ownR
  rw [inR_red]
  unfold inR
  rw [h1,Bool.true_and,Bool.not_eq_true',List.any_eq_false]
  intro x hx
  obtain ⟨q,hq,rfl⟩:=List.mem_map.1 hx
  obtain ⟨j,hj⟩:=List.mem_iff_getElem?.1 hq
  rw [List.getElem?_drop] at hj
  have hjl:=(sI.1 hj).1
  have h4:=h3 (ps.length-1-(ps.length-1-i+1+j)) (by omega)
  rw [List.getElem_reverse] at h4
  have e:ps.length-1-(ps.length-1-(ps.length-1-i+1+j))=ps.length-1-i+1+j:=by omega
  simp only [e,(sI.1 hj).2] at h4
  simpa using h4
theorem dec_of {ps:List Ln} {c:ByteArray} {p:Ln} {k:Nat} (hk:ps[k]? = some p) (h:inR (ownR ps k p) c=true):decS ps c=some p:=by
 unfold ownR at h
 rw [inR_red] at h
 unfold inR at h
 rw [Bool.and_eq_true,Bool.not_eq_true',List.any_eq_false] at h
 have hl:=(sI.1 hk).1
 unfold decS
 rw [List.find?_eq_some_iff_getElem]
 refine ⟨h.1,ps.length-1-k,by simp;omega,?_,fun j hj=>?_⟩
 ·rw [List.getElem_reverse]
  have e:ps.length-1-(ps.length-1-k)=k:=by omega
  simp only [e]
  exact (sI.1 hk).2
 ·rw [List.getElem_reverse]
  have:=h.2 (ps[ps.length-1-j]'(by omega)).2.1 (by
   unfold laterL
   refine List.mem_map.2 ⟨_,List.mem_iff_getElem?.2 ⟨ps.length-1-j-(k+1),?_⟩,rfl⟩
   rw [List.getElem?_drop]
   have e:k+1+(ps.length-1-j-(k+1))=ps.length-1-j:=by omega
   rw [e]
   exact gE _)
  simpa using this
open Pm
def pieceO (name:ByteArray) (p:Ln) (own:Rg) (q:Pc):Option Pc:=if rmO own q.1=true then some (nwP name p q (rmB own q.1)) else none
theorem fold_step {name:ByteArray} {p:Ln} {own:Rg}:∀ (ab r0 r:List Pc),ab.foldl (stepQ name p own) (some r0)=some r→r=r0++ab.filterMap (pieceO name p own)∧∀ q∈ab,rmE own q.1=false∧(rmO own q.1=true→nwE name p q (rmB own q.1)=0)
 | [],r0,r,h=>by
  cases h
  exact ⟨by simp,fun q hq=>by cases hq⟩
 | q::ab,r0,r,h=>by
  rw [List.foldl_cons] at h
  have hs:stepQ name p own (some r0) q=if rmE own q.1=true then none else if rmO own q.1=false then some r0 else if nwE name p q (rmB own q.1)≠0∨r0.length=32 then none else some (r0++[nwP name p q (rmB own q.1)]):=rfl
  rw [hs] at h
  cases he:rmE own q.1 with
  | true=>rw [he,if_pos rfl,stepQ_none] at h;cases h
  | false =>
   rw [he,if_neg (by decide)] at h
   cases ho:rmO own q.1 with
   | false =>
    rw [ho,if_pos rfl] at h
    obtain ⟨h1,h2⟩:=fold_step ab r0 r h
    refine ⟨?_,fun x hx=>?_⟩
    ·rw [h1]
     congr 1
     rw [List.filterMap_cons]
     unfold pieceO
     rw [ho]
     rfl
    ·rcases List.mem_cons.1 hx with rfl|hx
     ·exact ⟨he,fun e=>by rw [ho] at e;cases e⟩
     ·exact h2 x hx
   | true =>
    rw [ho,if_neg (by decide)] at h
    by_cases hn:nwE name p q (rmB own q.1)≠0∨r0.length=32
    ·rw [if_pos hn,stepQ_none] at h;cases h
    ·rw [if_neg hn] at h
     obtain ⟨h1,h2⟩:=fold_step ab _ r h
     refine ⟨?_,fun x hx=>?_⟩
     ·rw [h1,List.append_assoc]
      congr 1
      rw [List.filterMap_cons]
      unfold pieceO
      rw [ho]
      rfl
     ·rcases List.mem_cons.1 hx with rfl|hx
      ·exact ⟨he,fun _=>by
        rcases Classical.em (nwE name p x (rmB own x.1)=0) with e|e
        ·exact e
        ·exact absurd (Or.inl e) hn⟩
      ·exact h2 x hx
def From (name:ByteArray) (ps:List Ln) (ab:List Pc) (n:Nat) (q:Pc):Prop:=∃ k p q',k<n∧ps[k]? = some p∧p.1≠4∧q'∈ab∧rmO (ownR ps k p) q'.1=true∧q=nwP name p q' (rmB (ownR ps k p) q'.1)
theorem row_mem {name:ByteArray} {ps:List Ln} {ab:List Pc}:∀ (n:Nat) (r:List Pc),rowQ name ps ab n=some r→(∀ q,q∈r↔From name ps ab n q) ∧
 ∀ k p q',k<n→ps[k]? = some p→p.1≠4→q'∈ab→rmE (ownR ps k p) q'.1=false∧(rmO (ownR ps k p) q'.1=true→nwE name p q' (rmB (ownR ps k p) q'.1)=0)
 | 0,r,h=>by
  cases h
  refine ⟨fun q=>⟨fun h=>(by cases h),fun ⟨k,p,q',hk,_⟩=>absurd hk (Nat.not_lt_zero _)⟩,fun k p q' hk=>absurd hk (Nat.not_lt_zero _)⟩
 | n+1,r,h=>by
  cases hp:ps[n]? with
  | none =>
   have e:rowQ name ps ab (n+1)=rowQ name ps ab n:=by
    show (match ps[n]? with|none=>rowQ name ps ab n|some p=>lineQ name ps ab (rowQ name ps ab n) n p)=_
    rw [hp]
   rw [e] at h
   obtain ⟨h1,h2⟩:=row_mem n r h
   refine ⟨fun q=>(h1 q).trans ⟨fun ⟨k,p,q',hk,hr⟩=>⟨k,p,q',by omega,hr⟩,fun ⟨k,p,q',hk,hr⟩=>?_⟩,fun k p q' hk hps=>?_⟩
   ·rcases Nat.lt_or_ge k n with hlt|hge
    ·exact ⟨k,p,q',hlt,hr⟩
    ·obtain rfl:k=n:=by omega
     rw [hp] at hr
     cases hr.1
   ·rcases Nat.lt_or_ge k n with hlt|hge
    ·exact h2 k p q' hlt hps
    ·obtain rfl:k=n:=by omega
     rw [hp] at hps
     cases hps
  | some p =>
   rw [rowQ_succ hp] at h
   cases hr:rowQ name ps ab n with
   | none=>rw [hr,lineQ_none] at h;cases h
   | some r0 =>
    rw [hr] at h
    obtain ⟨h1,h2⟩:=row_mem n r0 hr
    unfold lineQ at h
    by_cases h4:p.1=4
    ·rw [if_pos h4] at h
     cases h
     refine ⟨fun q=>(h1 q).trans ⟨fun ⟨k,p,q',hk,hr⟩=>⟨k,p,q',by omega,hr⟩,fun ⟨k,x,q',hk,hr9⟩=>?_⟩,fun k x q' hk hps hx=>?_⟩
     ·rcases Nat.lt_or_ge k n with hlt|hge
      ·exact ⟨k,x,q',hlt,hr9⟩
      ·obtain rfl:k=n:=by omega
       rw [hp] at hr9
       obtain ⟨e,hx,_⟩:=hr9
       cases e
       exact absurd h4 hx
     ·rcases Nat.lt_or_ge k n with hlt|hge
      ·exact h2 k x q' hlt hps hx
      ·obtain rfl:k=n:=by omega
       rw [hp] at hps
       cases hps
       exact absurd h4 hx
    ·rw [if_neg h4] at h
     obtain ⟨h5,h6⟩:=fold_step ab r0 r h
     refine ⟨fun q=>?_,fun k x q' hk hps hx hq=>?_⟩
     ·rw [h5,List.mem_append,h1]
      constructor
      ·rintro (⟨k,x,q',hk,hr⟩|hm)
       ·exact ⟨k,x,q',by omega,hr⟩
       ·obtain ⟨q',hq,ho⟩:=List.mem_filterMap.1 hm
        unfold pieceO at ho
        by_cases hro:rmO (ownR ps n p) q'.1=true
        ·rw [if_pos hro] at ho
         exact ⟨n,p,q',by omega,hp,h4,hq,hro,(Option.some.inj ho).symm⟩
        ·rw [if_neg hro] at ho;cases ho
      ·rintro ⟨k,x,q',hk,hps,hx,hq,hro,e⟩
       rcases Nat.lt_or_ge k n with hlt|hge
       ·exact .inl ⟨k,x,q',hlt,hps,hx,hq,hro,e⟩
       ·obtain rfl:k=n:=by omega
        rw [hp] at hps
        cases hps
        refine .inr (List.mem_filterMap.2 ⟨q',hq,?_⟩)
        unfold pieceO
        rw [if_pos hro,e]
     ·rcases Nat.lt_or_ge k n with hlt|hge
      ·exact h2 k x q' hlt hps hx hq
      ·obtain rfl:k=n:=by omega
       rw [hp] at hps
       cases hps
       exact h6 q' hq
structure PcOk (q:Pc):Prop where
 rl:rlOk q.2.2.1 q.2.2.2
 base:∀ c,mt q.2.2.1 c=mt q.1.1 c
 rg:okRg q.1
 kd:q.2.1=1∨q.2.1=2∨q.2.1=3
structure AbOk (ab:List Pc) (see:ByteArray→Int×ByteArray):Prop where
 kd:∀ q∈ab,q.2.1=1∨q.2.1=2∨q.2.1=3
 ln:∀ q∈ab,q.2.1=3→rlOk q.2.2.1 q.2.2.2∧∀ c,mt q.1.1 c=true→mt q.2.2.1 c=true
 has:∀ c,(see c).1≠0→mt allP c=true→∃ q∈ab,inR q.1 c=true
 val:∀ c,∀ q∈ab,inR q.1 c=true→(see c).1=q.2.1∧(q.2.1=3→fO q.2.2.1 q.2.2.2 c=true∧fT q.2.2.1 q.2.2.2 c=(see c).2)
structure PsOk (ps:List Pc) (see:ByteArray→Int×ByteArray):Prop where
 ok:∀ q∈ps,PcOk q
 has:∀ c,(see c).1≠0→∃ q∈ps,inR q.1 c=true
 val:∀ c,∀ q∈ps,inR q.1 c=true→(see c).1=q.2.1∧fO q.2.2.1 q.2.2.2 c=true∧fT q.2.2.1 q.2.2.2 c=(see c).2
theorem PsOk.ab {ps:List Pc} {see:ByteArray→Int×ByteArray} (h:PsOk ps see):AbOk ps see :=
 ⟨fun q hq=>(h.ok q hq).kd,fun q hq _=>⟨(h.ok q hq).rl,fun c hc=>by rw [(h.ok q hq).base];exact hc⟩,fun c hc _=>h.has c hc,fun c q hq hi=>⟨(h.val c q hq hi).1,fun _=>(h.val c q hq hi).2⟩⟩
theorem pc0_ab:AbOk [pc0] (fun _=>(1,⟨#[]⟩)):=by
 refine ⟨fun q hq=>?_,fun q hq e=>?_,fun c _ hc=>⟨pc0,List.mem_singleton.2 rfl,?_⟩,fun c q hq hi=>?_⟩
 ·rw [List.mem_singleton.1 hq];exact .inl rfl
 ·rw [List.mem_singleton.1 hq] at e;cases e
 ·unfold inR pc0
  rw [hc]
  rfl
 ·rw [List.mem_singleton.1 hq]
  exact ⟨rfl,fun e=>by cases e⟩
theorem ownK_kd (k a:Int):ownK k a=1∨ownK k a=2:=by
 unfold ownK
 split
 ·exact .inl rfl
 ·exact .inr rfl
theorem first_of {p:Pn} {c:ByteArray} {u:List ByteArray} (hm:mt p c=true) (h:compsB c=viewN::u):p.1.getD 0 ⟨#[]⟩=viewN:=by
 have hok:checkP p.1 p.2=0:=(mt_iff.1 hm).2.1
 obtain ⟨_,hf,_⟩:=match_fil hm
 cases hp:p.1 with
 | nil=>have:=(check_zero hok).1;rw [hp] at this;cases this
 | cons x t =>
  have hpt:=(check_zero hok).2.2
  rw [hp] at hpt hf
  unfold partsOk at hpt
  rw [Bool.and_eq_true] at hpt
  obtain ⟨l',e,_⟩:=(Fil.lit (comp_42 hpt.1)).1 hf
  rw [h] at e
  cases e
  rfl
theorem some_path {p:Pn} (h:okPn p):∃ c,mt p c=true:=by
 obtain ⟨cs,l,hf⟩:=fil_some p.1 p.2
 exact ⟨_,fil_match h hf⟩
theorem ps_row {name:ByteArray} {ps:List Ln} {ab:List Pc} {see:ByteArray→Int×ByteArray} {r:List Pc} (hab:AbOk ab see) (hln:∀ p∈ps,lineOk p=true) (hn:comp name.data.toList=true) (h:rowQ name ps ab ps.length=some r) :
 PsOk r (fun c=>seeL name c (see c) (decS ps c)):=by
 obtain ⟨h1,h2⟩:=row_mem _ r h
 have one:∀ k p q' c,ps[k]? = some p→p.1≠4→q'∈ab→rmO (ownR ps k p) q'.1=true→inR (rmB (ownR ps k p) q'.1) c=true →
  fO (wideP name p q' (rmB (ownR ps k p) q'.1)).1 (wideP name p q' (rmB (ownR ps k p) q'.1)).2 c=true∧decS ps c=some p∧seeL name c (see c) (some p)=(kindP p q',fT (wideP name p q' (rmB (ownR ps k p) q'.1)).1 (wideP name p q' (rmB (ownR ps k p) q'.1)).2 c):=by
  intro k p q' c hk h4 hq ho hi
  have hlp:=(hln p (mG hk))
  obtain ⟨p1,p2,p3,p4⟩:=lineOk.parts hlp
  rw [rm_in ho,Bool.and_eq_true] at hi
  have hd:=dec_of hk hi.1
  have hv:=hab.val c q' hq hi.2
  have hkd:=hab.kd q' hq
  have hmp:mt p.2.1 c=true:=by
   have:=hi.1
   unfold inR ownR at this
   exact (Bool.and_eq_true _ _▸this).1
  have hs:seeL name c (see c) (some p)=if (see c).1=0∨p.1=4 then (0,⟨#[]⟩) else if (see c).1=3 then (3,(see c).2) else if p.1=3 then (3,fwdT p.2.1.1 p.2.1.2 p.2.2.1 p.2.2.2 c) else (ownK p.1 (see c).1,rootB++name++c.extract 6 c.size):=rfl
  rw [hs,hv.1,if_neg (by rintro (e|e)<;>omega)]
  unfold wideP kindP
  by_cases h3:q'.2.1=3
  ·obtain ⟨k2,k3⟩:=hv.2 h3
   rw [if_pos h3,if_pos h3,if_pos h3,k3]
   exact ⟨k2,hd,rfl⟩
  ·rw [if_neg h3,if_neg h3,if_neg h3]
   by_cases h5:p.1=3
   ·rw [if_pos h5,if_pos h5,if_pos h5]
    exact ⟨by rw [fO_mt (p4 h5).1];exact hmp,hd,rfl⟩
   ·rw [if_neg h5,if_neg h5,if_neg h5]
    have hg:inR (rmB (ownR ps k p) q'.1) c=true:=by rw [rm_in ho,hi.1,hi.2];rfl
    have hgm:mt (rmB (ownR ps k p) q'.1).1 c=true:=by
     unfold inR at hg
     exact (Bool.and_eq_true _ _▸hg).1
    obtain ⟨t,y,u,_,e2,_⟩:=first_view p2 hmp
    obtain ⟨k1,k2⟩:=sto_fwd (first_of hgm e2) hn hgm
    exact ⟨k1,hd,by rw [k2];rfl⟩
 have wd:∀ k p q',ps[k]? = some p→q'∈ab→rmO (ownR ps k p) q'.1=true →
  rlOk (wideP name p q' (rmB (ownR ps k p) q'.1)).1 (wideP name p q' (rmB (ownR ps k p) q'.1)).2∧∀ c,mt (rmB (ownR ps k p) q'.1).1 c=true→mt (wideP name p q' (rmB (ownR ps k p) q'.1)).1 c=true:=by
  intro k p q' hk hq ho
  obtain ⟨p1,p2,p3,p4⟩:=lineOk.parts (hln p (mG hk))
  have hmo:metO p.2.1 q'.1.1=true:=by
   unfold rmO at ho
   exact (Bool.and_eq_true _ _▸ho).1
  have hmt:∀ c,mt (rmB (ownR ps k p) q'.1).1 c=(mt p.2.1 c&&mt q'.1.1 c):=fun c=>met_mt hmo c
  unfold wideP
  by_cases h3:q'.2.1=3
  ·rw [if_pos h3]
   obtain ⟨k1,k2⟩:=hab.ln q' hq h3
   refine ⟨k1,fun c hc=>k2 c ?_⟩
   rw [hmt] at hc
   exact (Bool.and_eq_true _ _▸hc).2
  ·rw [if_neg h3]
   by_cases h5:p.1=3
   ·rw [if_pos h5]
    refine ⟨(p4 h5).1,fun c hc=>?_⟩
    rw [hmt] at hc
    exact (Bool.and_eq_true _ _▸hc).1
   ·rw [if_neg h5]
    exact ⟨sto_ok (met_ok hmo) hn,fun c hc=>hc⟩
 have nar:∀ k p q',ps[k]? = some p→p.1≠4→q'∈ab→rmO (ownR ps k p) q'.1=true →
  nrO (wideP name p q' (rmB (ownR ps k p) q'.1)).1 (wideP name p q' (rmB (ownR ps k p) q'.1)).2 (rmB (ownR ps k p) q'.1).1=true:=by
  intro k p q' hk h4 hq ho
  obtain ⟨k1,k2⟩:=wd k p q' hk hq ho
  have he:=(h2 k p q' (sI.1 hk).1 hk h4 hq).2 ho
  obtain ⟨c,hc⟩:=some_path (rm_ok ho).1
  cases hno:nrO (wideP name p q' (rmB (ownR ps k p) q'.1)).1 (wideP name p q' (rmB (ownR ps k p) q'.1)).2 (rmB (ownR ps k p) q'.1).1 with
  | true=>rfl
  | false =>
   have:=nr_no (s:=c) he hno
   rw [fO_mt k1,k2 c hc,hc] at this
   cases this
 have val:∀ c,∀ q∈r,inR q.1 c=true→(seeL name c (see c) (decS ps c)).1=q.2.1∧fO q.2.2.1 q.2.2.2 c=true∧fT q.2.2.1 q.2.2.2 c=(seeL name c (see c) (decS ps c)).2:=by
  intro c q hq hi
  obtain ⟨k,p,q',hlt,hk,h4,hq',ho,rfl⟩:=(h1 q).1 hq
  obtain ⟨k1,k2,k3⟩:=one k p q' c hk h4 hq' ho hi
  have hno:=nar k p q' hk h4 hq' ho
  rw [k2,k3]
  have hgm:mt (rmB (ownR ps k p) q'.1).1 c=true:=by
   have hi2:inR (rmB (ownR ps k p) q'.1) c=true:=hi
   unfold inR at hi2
   exact (Bool.and_eq_true _ _▸hi2).1
  obtain ⟨m1,m2⟩:=nr_yes (s:=c) hno
  rw [k1,hgm] at m1
  exact ⟨rfl,m1,m2 m1⟩
 refine ⟨fun q hq=>?_,fun c hc=>?_,val⟩
 ·obtain ⟨k,p,q',hlt,hk,h4,hq',ho,rfl⟩:=(h1 q).1 hq
  have hkd:=hab.kd q' hq'
  have p3:=(lineOk.parts (hln p (mG hk))).2.2.1
  have hno:=nar k p q' hk h4 hq' ho
  obtain ⟨k1,k2⟩:=wd k p q' hk hq' ho
  refine ⟨nr_ok hno,fun c=>?_,rm_ok ho,?_⟩
  ·show mt (nrL _ _ _) c=mt (rmB (ownR ps k p) q'.1).1 c
   rw [(nr_left hno).1,met_mt (nr_left hno).2]
   cases hm:mt (rmB (ownR ps k p) q'.1).1 c with
   | true=>rw [k2 c hm];rfl
   | false=>rw [Bool.and_false]
  ·show kindP p q'=1∨kindP p q'=2∨kindP p q'=3
   unfold kindP
   split
   ·exact .inr (.inr rfl)
   ·split
    ·exact .inr (.inr rfl)
    ·rcases ownK_kd p.1 q'.2.1 with e|e
     ·exact .inl e
     ·exact .inr (.inl e)
 ·have hc':(seeL name c (see c) (decS ps c)).1≠0:=hc
  cases hd:decS ps c with
  | none=>rw [hd] at hc';exact absurd rfl hc'
  | some p =>
   rw [hd] at hc'
   obtain ⟨k,hk,hi⟩:=dec_some hd
   have hlp:=hln p (mG hk)
   have hmp:mt p.2.1 c=true:=by
    unfold inR ownR at hi
    exact (Bool.and_eq_true _ _▸hi).1
   have hne:¬ ((see c).1=0∨p.1=4):=fun e=>by
    apply hc'
    show (if (see c).1=0∨p.1=4 then ((0:Int),(⟨#[]⟩:ByteArray)) else _).1=0
    rw [if_pos e]
   obtain ⟨q',hq',hi'⟩:=hab.has c (fun e=>hne (.inl e)) (mt_all (lineOk.parts hlp).2.1 hmp)
   have h4:p.1≠4:=fun e=>hne (.inr e)
   have hrm:=h2 k p q' (sI.1 hk).1 hk h4 hq'
   cases ho:rmO (ownR ps k p) q'.1 with
   | false =>
    have:=rm_none (c:=c) hrm.1 ho
    rw [hi,hi'] at this
    cases this
   | true=>exact ⟨_,(h1 _).2 ⟨k,p,q',(sI.1 hk).1,hk,h4,hq',ho,rfl⟩,by
    show inR (rmB (ownR ps k p) q'.1) c=true
    rw [rm_in ho,hi,hi']
    rfl⟩
theorem pcs_ok {l:List St} (hg:GoodS l):∀ (n i:Nat) (ps:List Pc),pcsF l n i=some ps→PsOk ps (fun c=>seeF l c n i)
 | 0,i,ps,h=>by cases h
 | n+1,i,ps,h=>by
  unfold pcsF at h
  cases hs:l[i]? with
  | none=>rw [hs] at h;cases h
  | some s =>
   rw [hs] at h
   simp only at h
   have hnm:comp s.1.data.toList=true:=by
    have:=(hg.nm i s hs).1
    unfold nameOk at this
    simp only [Bool.and_eq_true] at this
    exact this.1.1
   have hln:=(hg.ln i s hs).2
   have e:(fun c=>seeF l c (n+1) i)=fun c=>seeL s.1 c (match parS l i with|some p=>seeF l c n p|none=>(1,⟨#[]⟩)) (decS s.2.2 c):=by
    funext c
    show (match l[i]? with|none=>_|some s=>_)=_
    rw [hs]
    rfl
   rw [e]
   cases hp:parS l i with
   | none =>
    rw [hp] at h
    exact ps_row pc0_ab hln hnm h
   | some p =>
    rw [hp] at h
    simp only at h
    cases hq:pcsF l n p with
    | none=>rw [hq] at h;cases h
    | some ab =>
     rw [hq] at h
     exact ps_row (pcs_ok hg n p ab hq).ab hln hnm h
theorem ent_rel {q:Pc} {s c:ByteArray} (hq:PcOk q) (he:entE q=false):relN (entF q) s c↔(inR q.1 c=true∧fO q.2.2.1 q.2.2.2 c=true∧fT q.2.2.1 q.2.2.2 c=s):=by
 unfold relN entF
 show (inR (q.2.2.2,redH q.2.2.2 (nrsR q.2.2.1 q.2.2.2 q.1.2)) s=true∧fO q.2.2.2 q.2.2.1 s=true∧fT q.2.2.2 q.2.2.1 s=c)↔_
 rw [inR_red]
 constructor
 ·rintro ⟨h1,h2,h3⟩
  obtain ⟨h4,h5⟩:=f_turn h2 h3
  refine ⟨?_,h4,h5⟩
  unfold inR at h1 ⊢
  rw [nrs_any he h4 h5,Bool.and_eq_true] at h1
  rw [←hq.base,← fO_mt hq.rl,h4,Bool.true_and]
  exact h1.2
 ·rintro ⟨h1,h2,h3⟩
  obtain ⟨h4,h5⟩:=f_turn h2 h3
  refine ⟨?_,h4,h5⟩
  unfold inR at h1 ⊢
  rw [nrs_any he h2 h3,← fO_mt (rlOk_turn.1 hq.rl),h4,Bool.true_and]
  rw [Bool.and_eq_true] at h1
  exact h1.2
theorem vw_parts {l:List St} {n i:Nat} {ps:List Pc} (h:vwF l n i=some ps):pcsF l n i=some ps∧∀ q∈ps,entE q=false:=by
 unfold vwF at h
 cases hp:pcsF l n i with
 | none=>rw [hp] at h;cases h
 | some qs =>
  rw [hp] at h
  simp only at h
  by_cases ha:qs.any entE=true
  ·rw [if_pos ha] at h;cases h
  ·rw [if_neg ha] at h
   cases h
   rw [Bool.not_eq_true,List.any_eq_false] at ha
   exact ⟨rfl,fun q hq=>by simpa using ha q hq⟩
theorem vw_rel {l:List St} (hg:GoodS l) {n i:Nat} {ps:List Pc} (h:vwF l n i=some ps) (s c:ByteArray):relE (ps.map entF) s c↔((seeF l c n i).1≠0∧(seeF l c n i).2=s):=by
 obtain ⟨h1,h2⟩:=vw_parts h
 have hp:=pcs_ok hg n i ps h1
 unfold relE
 constructor
 ·rintro ⟨e,he,hr⟩
  obtain ⟨q,hq,rfl⟩:=List.mem_map.1 he
  obtain ⟨k1,k2,k3⟩:=(ent_rel (hp.ok q hq) (h2 q hq)).1 hr
  obtain ⟨m1,m2,m3⟩:=hp.val c q hq k1
  refine ⟨?_,m3.symm.trans k3⟩
  have m1':(seeF l c n i).1=q.2.1:=m1
  rw [m1']
  rcases (hp.ok q hq).kd with e|e|e<;>omega
 ·rintro ⟨h3,h4⟩
  obtain ⟨q,hq,hi⟩:=hp.has c h3
  obtain ⟨m1,m2,m3⟩:=hp.val c q hq hi
  exact ⟨_,List.mem_map.2 ⟨q,hq,rfl⟩,(ent_rel (hp.ok q hq) (h2 q hq)).2 ⟨hi,m2,m3.trans h4⟩⟩
end Go.Proofs.YtelkmeiepliecaaGreatDoor
