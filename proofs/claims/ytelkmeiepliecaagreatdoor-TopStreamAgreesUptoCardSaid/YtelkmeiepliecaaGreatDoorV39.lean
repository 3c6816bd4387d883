/-
  Part 39 of the proof.
-/
import Derived.Test.YtelkmeiepliecaaGreatDoorV38
set_option linter.unusedSimpArgs false
set_option linter.unusedVariables false
set_option maxHeartbeats 16000000
namespace Go.Proofs.YtelkmeiepliecaaGreatDoor
open Pm
def relN (e:En) (s c:ByteArray):Prop:=inR (e.1,e.2.2) s=true∧fO e.1 e.2.1 s=true∧fT e.1 e.2.1 s=c
def relE (m:List En) (s c:ByteArray):Prop:=∃ e∈m,relN e s c
def addO {α:Type} (s:List α×Bool):Option α→List α×Bool
 | none=>s
 | some x=>addC s x
theorem addO_full {α:Type} {s:List α×Bool} {o:Option α} (h:(addO s o).2=false):s.2=false∧(addO s o).1=s.1++o.toList:=by
 cases o with
 | none=>exact ⟨h,by simp [addO]⟩
 | some x =>
  have e:addO s (some x)=if s.1.length=32 then (s.1,true) else (s.1++[x],s.2):=rfl
  rw [e] at h ⊢
  by_cases h1:s.1.length=32
  ·rw [if_pos h1] at h;cases h
  ·rw [if_neg h1] at h ⊢
   exact ⟨h,rfl⟩
theorem foldO {α β:Type} (f:β→Option α):∀ (m:List β) (s:List α×Bool),(m.foldl (fun s e=>addO s (f e)) s).2=false→s.2=false∧(m.foldl (fun s e=>addO s (f e)) s).1=s.1++m.filterMap f
 | [],s,h=>⟨h,by simp⟩
 | e::m,s,h=>by
  rw [List.foldl_cons] at h ⊢
  obtain ⟨h1,h2⟩:=foldO f m _ h
  obtain ⟨h3,h4⟩:=addO_full h1
  refine ⟨h3,?_⟩
  rw [h2,h4,List.append_assoc]
  congr 1
  cases hf:f e with
  | none=>simp [hf]
  | some x=>simp [hf]
def putO (l r:Pn) (ps:List Pn):Option En:=if (!rdE l ps&&!voidF l (redH l ps))=true then some (l,r,redH l ps) else none
theorem putC_O (s:List En×Bool) (l r:Pn) (ps:List Pn):putC s l r ps=addO s (putO l r ps):=by
 unfold putC putO
 split<;>rfl
theorem putO_rel {l r:Pn} {ps:List Pn} {s c:ByteArray} (hl:okPn l) (hr:rdE l ps=false):(∃ x,putO l r ps=some x∧relN x s c)↔(inR (l,ps) s=true∧fO l r s=true∧fT l r s=c):=by
 unfold putO
 rw [hr,Bool.not_false,Bool.true_and]
 cases hv:voidF l (redH l ps) with
 | false =>
  rw [if_pos (by rfl)]
  constructor
  ·rintro ⟨x,e,h⟩
   cases e
   unfold relN at h
   rw [←inR_red]
   exact h
  ·intro h
   refine ⟨_,rfl,?_⟩
   unfold relN
   rw [inR_red]
   exact h
 | true =>
  rw [if_neg (by simp)]
  constructor
  ·rintro ⟨x,e,_⟩
   cases e
  ·rintro ⟨h,_⟩
   exfalso
   rw [←inR_red] at h
   unfold inR at h
   rw [Bool.and_eq_true] at h
   have:=voidF_sound redH_ok hl hv h.1
   rw [this] at h
   exact absurd h.2 (by simp)
theorem putO_ok {l r:Pn} {ps:List Pn} {x:En} (h:putO l r ps=some x) (hk:rlOk l r):x.1=l∧x.2.1=r∧x.2.2=redH l ps∧okEn x:=by
 unfold putO at h
 split at h
 ·rename_i hc
  cases h
  rw [Bool.and_eq_true] at hc
  refine ⟨rfl,rfl,rfl,hk,hk.okl,redH_ok,?_⟩
  have:=hc.1
  unfold rdE at this
  simp only [Bool.not_eq_true',decide_eq_false_iff_not] at this
  show (redH l ps).length≤64
  omega
 ·cases h
def invO (e:En):Option En:=putO e.2.1 e.1 (nrsR e.1 e.2.1 e.2.2)
theorem inv_list {m:List En} (h:invE m=0):chkM m=0∧(invC m).1=m.filterMap invO∧∀ e∈m,rdE e.2.1 (nrsR e.1 e.2.1 e.2.2)=false:=by
 unfold invE at h
 by_cases h1:chkM m=0
 ·rw [if_pos h1] at h
  by_cases h2:invF m=true
  ·rw [if_pos h2] at h;cases h
  ·rw [if_neg h2] at h
   by_cases h3:(invC m).2=true
   ·rw [if_pos h3] at h;cases h
   ·refine ⟨h1,?_,fun e he=>?_⟩
    ·have e1:invC m=m.foldl (fun s e=>addO s (invO e)) ([],false):=by
      unfold invC
      congr 1
      funext s e
      exact putC_O _ _ _ _
     rw [e1] at h3 ⊢
     have:=(foldO invO m ([],false) (by simpa using h3)).2
     rw [this,List.nil_append]
    ·unfold invF at h2
     rw [Bool.not_eq_true,List.any_eq_false] at h2
     simpa using h2 e he
 ·rw [if_neg h1] at h;exact absurd h h1
theorem inv_one {e:En} {s c:ByteArray} (hk:okEn e) (hn:nrsE e.1 e.2.1 e.2.2=false) (hr:rdE e.2.1 (nrsR e.1 e.2.1 e.2.2)=false):(∃ x,invO e=some x∧relN x c s)↔relN e s c:=by
 unfold invO
 rw [putO_rel hk.1.okr hr]
 unfold relN
 constructor
 ·rintro ⟨h1,h2,h3⟩
  obtain ⟨h4,h5⟩:=f_turn h2 h3
  refine ⟨?_,h4,h5⟩
  unfold inR at h1 ⊢
  rw [nrs_any hn h4 h5,Bool.and_eq_true] at h1
  rw [←fO_mt hk.1,h4,Bool.true_and]
  exact h1.2
 ·rintro ⟨h1,h2,h3⟩
  obtain ⟨h4,h5⟩:=f_turn h2 h3
  refine ⟨?_,h4,h5⟩
  unfold inR at h1 ⊢
  rw [nrs_any hn h2 h3,← fO_mt (rlOk_turn.1 hk.1),h4,Bool.true_and]
  rw [Bool.and_eq_true] at h1
  exact h1.2
theorem inv_rel {m:List En} {s c:ByteArray} (hok:okM m) (h:invE m=0):relE (invC m).1 c s↔relE m s c:=by
 obtain ⟨h1,h2,h3⟩:=inv_list h
 unfold relE
 rw [h2]
 constructor
 ·rintro ⟨x,hx,hr⟩
  obtain ⟨e,he,ho⟩:=List.mem_filterMap.1 hx
  exact ⟨e,he,(inv_one (hok.1 e he).1 (chkM_zero h1 e he) (h3 e he)).1 ⟨x,ho,hr⟩⟩
 ·rintro ⟨e,he,hr⟩
  obtain ⟨x,ho,hr⟩:=(inv_one (hok.1 e he).1 (chkM_zero h1 e he) (h3 e he)).2 hr
  exact ⟨x,List.mem_filterMap.2 ⟨e,he,ho⟩,hr⟩
def rstO (g:Rg) (e:En):Option En:=if nrO e.1 e.2.1 g.1=true then putO (nrL e.1 e.2.1 g.1) (nrR e.1 e.2.1 g.1) (e.2.2++g.2) else none
theorem rst_list {g:Rg} {m:List En} (h:rstE g m=0):chkM m=0∧(rstC g m).1=m.filterMap (rstO g)∧∀ e∈m,rstB g e=false:=by
 unfold rstE at h
 by_cases h1:chkM m=0
 ·rw [if_pos h1] at h
  by_cases h2:m.any (rstB g)=true
  ·rw [if_pos h2] at h;cases h
  ·rw [if_neg h2] at h
   by_cases h3:(rstC g m).2=true
   ·rw [if_pos h3] at h;cases h
   ·refine ⟨h1,?_,fun e he=>?_⟩
    ·have e1:rstC g m=m.foldl (fun s e=>addO s (rstO g e)) ([],false):=by
      unfold rstC
      congr 1
      funext s e
      unfold rstS rstO
      split
      ·exact putC_O _ _ _ _
      ·rfl
     rw [e1] at h3 ⊢
     have:=(foldO (rstO g) m ([],false) (by simpa using h3)).2
     rw [this,List.nil_append]
    ·rw [Bool.not_eq_true,List.any_eq_false] at h2
     simpa using h2 e he
 ·rw [if_neg h1] at h;exact absurd h h1
theorem rst_one {g:Rg} {e:En} {s c:ByteArray} (hk:okEn e) (hb:rstB g e=false):(∃ x,rstO g e=some x∧relN x s c)↔(relN e s c∧inR g s=true):=by
 unfold rstB at hb
 rw [Bool.or_eq_false_iff] at hb
 have he:nrE e.1 e.2.1 g.1=0:=by simpa using hb.1
 unfold rstO
 cases ho:nrO e.1 e.2.1 g.1 with
 | false =>
  rw [if_neg (by decide)]
  constructor
  ·rintro ⟨x,h,_⟩
   cases h
  ·rintro ⟨⟨_,h2,_⟩,h⟩
   exfalso
   have:=nr_no (s:=s) he ho
   unfold inR at h
   rw [Bool.and_eq_true] at h
   rw [h2,h.1] at this
   cases this
 | true =>
  rw [ho,Bool.true_and] at hb
  obtain ⟨k1,k2⟩:=nr_yes (s:=s) ho
  have kk:=nr_ok ho
  rw [if_pos rfl,putO_rel kk.okl hb.2]
  unfold relN inR
  rw [←fO_mt kk,k1,List.any_append,← fO_mt hk.1]
  constructor
  ·rintro ⟨h1,h2,h3⟩
   have h4:fO e.1 e.2.1 s=true∧mt g.1 s=true:=by simpa using h2
   rw [k2 (k1.trans h2)] at h3
   rw [h4.1,h4.2] at h1 ⊢
   simp only [Bool.true_and,Bool.not_or,Bool.and_eq_true] at h1 ⊢
   exact ⟨⟨h1.1,trivial,h3⟩,h1.2⟩
  ·rintro ⟨⟨h1,h2,h3⟩,h4⟩
   rw [Bool.and_eq_true] at h4
   have h5:(fO e.1 e.2.1 s&&mt g.1 s)=true:=by rw [h2,h4.1];rfl
   rw [k2 (k1.trans h5),h5]
   rw [h2] at h1
   simp only [Bool.true_and,Bool.not_or,Bool.and_eq_true] at h1 h4 ⊢
   exact ⟨⟨h1,h4.2⟩,trivial,h3⟩
theorem rst_rel {g:Rg} {m:List En} {s c:ByteArray} (hok:okM m) (h:rstE g m=0):relE (rstC g m).1 s c↔(relE m s c∧inR g s=true):=by
 obtain ⟨h1,h2,h3⟩:=rst_list h
 unfold relE
 rw [h2]
 constructor
 ·rintro ⟨x,hx,hr⟩
  obtain ⟨e,he,ho⟩:=List.mem_filterMap.1 hx
  have:=(rst_one (hok.1 e he).1 (h3 e he)).1 ⟨x,ho,hr⟩
  exact ⟨⟨e,he,this.1⟩,this.2⟩
 ·rintro ⟨⟨e,he,hr⟩,hg⟩
  obtain ⟨x,ho,hr⟩:=(rst_one (hok.1 e he).1 (h3 e he)).2 ⟨hr,hg⟩
  exact ⟨x,List.mem_filterMap.2 ⟨e,he,ho⟩,hr⟩
theorem regH_in {e:En} (hk:okEn e) (s:ByteArray):regH e.1 e.2.2 s=inR (e.1,e.2.2) s:=by
 unfold regH inR
 rw [decide_eq_true (regE_ok hk.2),Bool.true_and]
theorem forL_rel {m:List En} {s:ByteArray} (hok:∀ e∈m,okEn e):((forL m s).2=true→relE m s (forL m s).1)∧((forL m s).2=false→(forL m s).1=⟨#[]⟩∧∀ c,¬ relE m s c):=by
 induction m with
 | nil =>
  refine ⟨fun h=>(by cases h),fun _=>⟨rfl,?_⟩⟩
  rintro c ⟨e,he,_⟩
  cases he
 | cons e m ih =>
  have hk:=hok e List.mem_cons_self
  have ih:=ih fun x hx=>hok x (List.mem_cons_of_mem _ hx)
  have hr:=regH_in hk s
  unfold forL
  cases hc:regH e.1 e.2.2 s with
  | true =>
   rw [if_pos rfl]
   rw [hc] at hr
   have hf:fO e.1 e.2.1 s=true:=by
    rw [fO_mt hk.1]
    unfold inR at hr
    exact (Bool.and_eq_true _ _▸hr.symm).1
   refine ⟨fun _=>⟨e,List.mem_cons_self,hr.symm,hf,rfl⟩,fun h=>?_⟩
   have:(forE e s).2=true:=hf
   rw [this] at h
   cases h
  | false =>
   rw [if_neg (by decide)]
   rw [hc] at hr
   refine ⟨fun h=>?_,fun h=>⟨(ih.2 h).1,?_⟩⟩
   ·obtain ⟨x,hx,h1⟩:=ih.1 h
    exact ⟨x,List.mem_cons_of_mem _ hx,h1⟩
   ·rintro c ⟨x,hx,h1⟩
    rcases List.mem_cons.1 hx with rfl|hx
    ·rw [h1.1] at hr;cases hr
    ·exact (ih.2 h).2 c ⟨x,hx,h1⟩
open Pm
theorem viewN_st:stB viewN=false:=by decide +kernel
theorem ba_eq {a b:ByteArray} (h:a.data.toList=b.data.toList):a=b:=by rw [←mkB_back a,← mkB_back b,h]
theorem allP_ok:okPn allP:=by
 unfold okPn
 decide +kernel
theorem first_view {p:Pn} {c:ByteArray} (hv:p.1.getD 0 ⟨#[]⟩=viewN) (hm:mt p c=true):∃ t y u,p.1=viewN::t∧compsB c=viewN::y::u∧joinB (compsB c)=c∧pathOk c.data.toList=true∧(∀ z∈compsB c,comp z.data.toList=true):=by
 have hok:checkP p.1 p.2=0:=(mt_iff.1 hm).2.1
 obtain ⟨_,hf,hj⟩:=match_fil hm
 have h2:=fil_two hok hf
 have hcp:=hf.comps (parts_all (check_zero hok).2.2)
 cases hp:p.1 with
 | nil=>rw [hp] at hv;exact absurd hv (by decide +kernel)
 | cons x t =>
  rw [hp] at hv hf
  have hx:x=viewN:=by simpa using hv
  subst hx
  obtain ⟨l',e,hf'⟩:=(Fil.lit viewN_st).1 hf
  rw [e] at h2
  cases l' with
  | nil=>simp at h2
  | cons y u=>exact ⟨t,y,u,rfl,e,hj,(mt_iff.1 hm).1,hcp⟩
theorem mt_all {p:Pn} {c:ByteArray} (hv:p.1.getD 0 ⟨#[]⟩=viewN) (hm:mt p c=true):mt allP c=true:=by
 obtain ⟨t,y,u,_,h2,_,h4,_⟩:=first_view hv hm
 rw [mt_iff]
 refine ⟨h4,allP_ok,⟨?_,fun _=>?_,fun h=>?_⟩,fun k a b ha hb=>?_⟩
 ·rw [h2];simp [allP]
 ·rw [h2];simp [allP]
 ·cases h
 ·cases k with
  | zero =>
   have:a=viewN:=by simpa [allP] using ha.symm
   subst this
   rw [h2] at hb
   have:b=viewN:=by simpa using hb.symm
   subst this
   decide +kernel
  | succ k=>simp [allP] at ha
theorem join_cons2 (x y:ByteArray) (u:List ByteArray):∃ T,∀ x:ByteArray,(joinB (x::y::u)).data.toList=[47,47]++(x.data.toList++T):=by
 refine ⟨Lib.joinTail [47] (datj (y::u)),fun x=>?_⟩
 unfold joinB
 rw [mkB_data]
 unfold joinL
 rw [show datj (x::y::u)=x.data.toList::datj (y::u) from rfl,Lib.join_cons]
 rfl
def stoB (name c:ByteArray):ByteArray:=rootB++name++c.extract 6 c.size
theorem stoB_join (name y:ByteArray) (u:List ByteArray):stoB name (joinB (viewN::y::u))=joinB (name::y::u):=by
 obtain ⟨T,hT⟩:=join_cons2 name y u
 apply ba_eq
 unfold stoB
 rw [app_data,app_data,Lib.extract_to_end,hT,hT]
 have:rootB.data.toList=[47,47]:=by decide +kernel
 have h2:viewN.data.toList=[118,105,101,119]:=by decide +kernel
 rw [this,h2]
 simp
theorem sto_ok {p:Pn} {name:ByteArray} (hp:okPn p) (hn:comp name.data.toList=true):rlOk p (stoP p name):=by
 cases he:p.1 with
 | nil=>have:=(check_zero hp).1;rw [he] at this;cases this
 | cons x t =>
  have hs:(stoP p name).1=name::t:=by unfold stoP;rw [he];rfl
  have h0:checkP (x::t) p.2=0:=by rw [←he];exact hp
  have hc:=check_zero h0
  have hpt:=hc.2.2
  unfold partsOk at hpt
  rw [Bool.and_eq_true] at hpt
  have hk:checkP (name::t) p.2=0:=by
   unfold checkP at h0 ⊢
   have hpo:partsOk (name::t)=true:=by show (comp name.data.toList&&t.all partB)=true;rw [hn,hpt.2];rfl
   rw [hc.2.2] at h0
   rw [hpo]
   exact h0
  unfold rlOk
  rw [ruleE_zero,hs,he]
  refine ⟨h0,hk,?_,rfl⟩
  rw [cnt_lit (comp_42 hpt.1),cnt_lit (comp_42 hn)]
theorem sto_fwd {p:Pn} {name c:ByteArray} (hv:p.1.getD 0 ⟨#[]⟩=viewN) (hn:comp name.data.toList=true) (hm:mt p c=true):fO p (stoP p name) c=true∧fT p (stoP p name) c=stoB name c:=by
 have hok:checkP p.1 p.2=0:=(mt_iff.1 hm).2.1
 obtain ⟨t,y,u,h1,h2,h3,_⟩:=first_view hv hm
 obtain ⟨_,hf,_⟩:=match_fil hm
 have hs:(stoP p name).1=name::t:=by unfold stoP;rw [h1];rfl
 have hf0:=hf
 rw [h1,h2] at hf
 obtain ⟨l',e,hf'⟩:=(Fil.lit viewN_st).1 hf
 cases e
 have hk:Fil (stoP p name).1 (stoP p name).2 (capsB stB mpCap p.1 p.2 c) (name::y::u):=by
  rw [hs]
  exact (Fil.lit (comp_42 hn)).2 ⟨_,rfl,h1▸hf'⟩
 have:=fwd_mk (sto_ok hok hn) hf0 hk
 rw [h3] at this
 refine ⟨this.1,this.2.trans ?_⟩
 have e:c=joinB (viewN::y::u):=by rw [←h2];exact h3.symm
 rw [e,stoB_join]
structure GoodS (l:List St):Prop where
 len:l.length≤16
 nm:∀ (i:Nat) (s:St),l[i]? = some s→nameOk s.1=true∧idxS l s.1=some i
 ln:∀ (i:Nat) (s:St),l[i]? = some s→s.2.2.length≤12∧∀ p∈s.2.2,lineOk p=true
 par:∀ (i:Nat) (s:St),l[i]? = some s→s.2.1.size≠0→idxS l s.2.1≠none
 cyc:∀ i:Nat,i<l.length→i∉abvS l i
 dep:∀ i:Nat,i<l.length→(abvS l i).length≤5
 bad:∀ (i:Nat) (s:St),l[i]? = some s→badL l i ((abvS l i).flatMap (impsI l)) s.2.2=false
theorem find_none {α:Type} {p:α→Bool} {l:List α} (h:l.find? p=none):∀ x∈l,p x=false:=fun x hx=>by
 have:=List.find?_eq_none.1 h x hx
 simpa using this
theorem first_zero {l:List Int} (h:(l.find? (· != 0)).getD 0=0):∀ x∈l,x=0:=fun x hx=>by
 cases hf:l.find? (· != 0) with
 | none=>simpa using find_none hf x hx
 | some y =>
  rw [hf] at h
  have h1:=List.find?_some hf
  have h2:y=0:=h
  rw [h2] at h1
  cases h1
theorem chk_steps {l:List St} (h:chkS l=0):l.length≤16∧∀ k i,k<5→i<l.length→stepE l k i=0:=by
 unfold chkS at h
 by_cases h1:16<l.length
 ·rw [if_pos h1] at h;cases h
 ·rw [if_neg h1] at h
  refine ⟨by omega,fun k i hk hi=>?_⟩
  have:=first_zero h _ (List.mem_map.2 ⟨k,List.mem_range.2 hk,rfl⟩)
  exact first_zero this _ (List.mem_map.2 ⟨i,List.mem_range.2 hi,rfl⟩)
theorem idxS_self {l:List St} {i:Nat} {s:St} (hs:l[i]? = some s):∃ j,idxS l s.1=some j∧j≤i:=by
 have hi:=(sI.1 hs).1
 cases hj:idxS l s.1 with
 | none =>
  exfalso
  have:=List.findIdx?_eq_none_iff.1 hj s (mG hs)
  simp at this
 | some j =>
  refine ⟨j,rfl,Nat.le_of_not_lt fun hlt=>?_⟩
  obtain ⟨_,_,h3⟩:=List.findIdx?_eq_some_iff_getElem.1 hj
  have:=h3 i hlt
  rw [(sI.1 hs).2] at this
  simp at this
theorem good_of {l:List St} (h:chkS l=0):GoodS l:=by
 obtain ⟨h1,h2⟩:=chk_steps h
 have lt:∀ {i:Nat} {s:St},l[i]? = some s→i<l.length:=fun hs=>(sI.1 hs).1
 have hits:∀ i s,l[i]? = some s→nameOk s.1=true∧idxS l s.1=some i∧s.2.2.length≤12∧∀ p∈s.2.2,lineOk p=true:=fun i s hs=>by
  have:=h2 0 i (by omega) (lt hs)
  unfold stepE itsE at this
  rw [hs] at this
  simp only at this
  split at this
  ·cases this
  ·rename_i h3
   split at this
   ·cases this
   ·rename_i h4
    split at this
    ·cases this
    ·rename_i h5
     split at this
     ·cases this
     ·rename_i h6
      obtain ⟨j,hj,hji⟩:=idxS_self hs
      rw [hj] at h4
      have hj2:j=i:=by
       have:¬ j<i:=h4
       omega
      refine ⟨by simpa using h3,by rw [hj,hj2],by omega,fun p hp=>?_⟩
      rw [Bool.not_eq_true,List.any_eq_false] at h5
      have:=h5 p hp
      simpa using this
 refine ⟨h1,fun i s hs=>⟨(hits i s hs).1,(hits i s hs).2.1⟩,fun i s hs=>⟨(hits i s hs).2.2.1,(hits i s hs).2.2.2⟩,fun i s hs h0 hn=>?_,fun i hi hm=>?_,fun i hi=>?_,fun i s hs=>?_⟩
 ·have:=h2 1 i (by omega) (lt hs)
  unfold stepE misE at this
  rw [hs] at this
  simp only at this
  rw [if_pos ⟨h0,hn⟩] at this
  cases this
 ·have:=h2 2 i (by omega) hi
  unfold stepE cycE at this
  simp only at this
  rw [if_pos (List.any_eq_true.2 ⟨i,hm,by simp⟩)] at this
  cases this
 ·have:=h2 3 i (by omega) hi
  unfold stepE depE at this
  simp only at this
  split at this
  ·cases this
  ·omega
 ·have:=h2 4 i (by omega) (lt hs)
  unfold stepE badE2 at this
  simp only at this
  rw [hs] at this
  simp only at this
  split at this
  ·cases this
  ·rename_i h3
   simpa using h3
theorem lineOk.parts {p:Ln} (h:lineOk p=true):okPn p.2.1∧p.2.1.1.getD 0 ⟨#[]⟩=viewN∧(p.1=1∨p.1=2∨p.1=3∨p.1=4)∧(p.1=3→rlOk p.2.1 p.2.2∧p.2.2.1.getD 0 ⟨#[]⟩≠viewN):=by
 unfold lineOk at h
 simp only [Bool.and_eq_true,decide_eq_true_eq] at h
 obtain ⟨⟨h1,h2⟩,h3⟩:=h
 refine ⟨h1,h2,?_,fun e=>?_⟩
 ·split at h3
  ·rename_i h4;omega
  ·split at h3
   ·rename_i h4;omega
   ·cases h3
 ·rw [if_neg (by omega),if_pos e] at h3
  simp only [Bool.and_eq_true,decide_eq_true_eq,Bool.not_eq_true',decide_eq_false_iff_not] at h3
  exact h3
theorem dec_some {ps:List Ln} {c:ByteArray} {p:Ln} (h:decS ps c=some p):∃ k,ps[k]? = some p∧inR (ownR ps k p) c=true:=by
 unfold decS at h
 obtain ⟨h1,i,hi,he,h3⟩:=List.find?_eq_some_iff_getElem.1 h
 have hl:i<ps.length:=by simpa using hi
 refine ⟨ps.length-1-i,?_,?_⟩
 ·rw [←he,List.getElem_reverse]
  exact gE _
 ·unfold ownR
  rw [inR_red]
  unfold inR
  rw [h1,Bool.true_and,Bool.not_eq_true',List.any_eq_false]
  intro x hx
  obtain ⟨q,hq,rfl⟩:=List.mem_map.1 hx
  obtain ⟨j,hj⟩:=List.mem_iff_getElem?.1 hq
  rw [List.getElem?_drop] at hj
  have hjl:=(sI.1 hj).1
  have h4:=h3 (ps.length-1-(ps.length-1-i+1+j)) (by omega)
  rw [List.getElem_reverse] at h4
  have e:ps.length-1-(ps.length-1-(ps.length-1-i+1+j))=ps.length-1-i+1+j:=by omega
  simp only [e,(sI.1 hj).2] at h4
  simpa using h4
theorem dec_of {ps:List Ln} {c:ByteArray} {p:Ln} {k:Nat} (hk:ps[k]? = some p) (h:inR (ownR ps k p) c=true):decS ps c=some p:=by
 unfold ownR at h
 rw [inR_red] at h
 unfold inR at h
 rw [Bool.and_eq_true,Bool.not_eq_true',List.any_eq_false] at h
 have hl:=(sI.1 hk).1
 unfold decS
 rw [List.find?_eq_some_iff_getElem]
 refine ⟨h.1,ps.length-1-k,by simp;omega,?_,fun j hj=>?_⟩
 ·rw [List.getElem_reverse]
  have e:ps.length-1-(ps.length-1-k)=k:=by omega
  simp only [e]
  exact (sI.1 hk).2
 ·rw [List.getElem_reverse]
  have:=h.2 (ps[ps.length-1-j]'(by omega)).2.1 (by
   unfold laterL
   refine List.mem_map.2 ⟨_,List.mem_iff_getElem?.2 ⟨ps.length-1-j-(k+1),?_⟩,rfl⟩
   rw [List.getElem?_drop]
   have e:k+1+(ps.length-1-j-(k+1))=ps.length-1-j:=by omega
   rw [e]
   exact gE _)
  simpa using this
end Go.Proofs.YtelkmeiepliecaaGreatDoor
