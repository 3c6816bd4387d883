/-
  Part 40 of the proof.
-/
import Derived.Test.YtelkmeiepliecaaGreatDoorV39
set_option linter.unusedSimpArgs false
set_option linter.unusedVariables false
set_option maxHeartbeats 16000000
namespace Go.Proofs.YtelkmeiepliecaaGreatDoor
open Pm
def pieceO (name:ByteArray) (p:Ln) (own:Rg) (q:Pc):Option Pc:=if rmO own q.1=true then some (nwP name p q (rmB own q.1)) else none
theorem fold_step {name:ByteArray} {p:Ln} {own:Rg}:∀ (ab r0 r:List Pc),ab.foldl (stepQ name p own) (some r0)=some r→r=r0++ab.filterMap (pieceO name p own)∧∀ q∈ab,rmE own q.1=false∧(rmO own q.1=true→nwE name p q (rmB own q.1)=0)
 | [],r0,r,h=>by
  cases h
  exact ⟨by simp,fun q hq=>by cases hq⟩
 | q::ab,r0,r,h=>by
  rw [List.foldl_cons] at h
  have hs:stepQ name p own (some r0) q=if rmE own q.1=true then none else if rmO own q.1=false then some r0 else if nwE name p q (rmB own q.1)≠0∨r0.length=32 then none else some (r0++[nwP name p q (rmB own q.1)]):=rfl
  rw [hs] at h
  cases he:rmE own q.1 with
  | true=>rw [he,if_pos rfl,stepQ_none] at h;cases h
  | false =>
   rw [he,if_neg (by decide)] at h
   cases ho:rmO own q.1 with
   | false =>
    rw [ho,if_pos rfl] at h
    obtain ⟨h1,h2⟩:=fold_step ab r0 r h
    refine ⟨?_,fun x hx=>?_⟩
    ·rw [h1]
     congr 1
     rw [List.filterMap_cons]
     unfold pieceO
     rw [ho]
     rfl
    ·rcases List.mem_cons.1 hx with rfl|hx
     ·exact ⟨he,fun e=>by rw [ho] at e;cases e⟩
     ·exact h2 x hx
   | true =>
    rw [ho,if_neg (by decide)] at h
    by_cases hn:nwE name p q (rmB own q.1)≠0∨r0.length=32
    ·rw [if_pos hn,stepQ_none] at h;cases h
    ·rw [if_neg hn] at h
     obtain ⟨h1,h2⟩:=fold_step ab _ r h
     refine ⟨?_,fun x hx=>?_⟩
     ·rw [h1,List.append_assoc]
      congr 1
      rw [List.filterMap_cons]
      unfold pieceO
      rw [ho]
      rfl
     ·rcases List.mem_cons.1 hx with rfl|hx
      ·exact ⟨he,fun _=>by
        rcases Classical.em (nwE name p x (rmB own x.1)=0) with e|e
        ·exact e
        ·exact absurd (Or.inl e) hn⟩
      ·exact h2 x hx
def From (name:ByteArray) (ps:List Ln) (ab:List Pc) (n:Nat) (q:Pc):Prop:=∃ k p q',k<n∧ps[k]? = some p∧p.1≠4∧q'∈ab∧rmO (ownR ps k p) q'.1=true∧q=nwP name p q' (rmB (ownR ps k p) q'.1)
theorem row_mem {name:ByteArray} {ps:List Ln} {ab:List Pc}:∀ (n:Nat) (r:List Pc),rowQ name ps ab n=some r→(∀ q,q∈r↔From name ps ab n q) ∧
 ∀ k p q',k<n→ps[k]? = some p→p.1≠4→q'∈ab→rmE (ownR ps k p) q'.1=false∧(rmO (ownR ps k p) q'.1=true→nwE name p q' (rmB (ownR ps k p) q'.1)=0)
 | 0,r,h=>by
  cases h
  refine ⟨fun q=>⟨fun h=>(by cases h),fun ⟨k,p,q',hk,_⟩=>absurd hk (Nat.not_lt_zero _)⟩,fun k p q' hk=>absurd hk (Nat.not_lt_zero _)⟩
 | n+1,r,h=>by
  cases hp:ps[n]? with
  | none =>
   have e:rowQ name ps ab (n+1)=rowQ name ps ab n:=by
    show (match ps[n]? with|none=>rowQ name ps ab n|some p=>lineQ name ps ab (rowQ name ps ab n) n p)=_
    rw [hp]
   rw [e] at h
   obtain ⟨h1,h2⟩:=row_mem n r h
   refine ⟨fun q=>(h1 q).trans ⟨fun ⟨k,p,q',hk,hr⟩=>⟨k,p,q',by omega,hr⟩,fun ⟨k,p,q',hk,hr⟩=>?_⟩,fun k p q' hk hps=>?_⟩
   ·rcases Nat.lt_or_ge k n with hlt|hge
    ·exact ⟨k,p,q',hlt,hr⟩
    ·obtain rfl:k=n:=by omega
     rw [hp] at hr
     cases hr.1
   ·rcases Nat.lt_or_ge k n with hlt|hge
    ·exact h2 k p q' hlt hps
    ·obtain rfl:k=n:=by omega
     rw [hp] at hps
     cases hps
  | some p =>
   rw [rowQ_succ hp] at h
   cases hr:rowQ name ps ab n with
   | none=>rw [hr,lineQ_none] at h;cases h
   | some r0 =>
    rw [hr] at h
    obtain ⟨h1,h2⟩:=row_mem n r0 hr
    unfold lineQ at h
    by_cases h4:p.1=4
    ·rw [if_pos h4] at h
     cases h
     refine ⟨fun q=>(h1 q).trans ⟨fun ⟨k,p,q',hk,hr⟩=>⟨k,p,q',by omega,hr⟩,fun ⟨k,x,q',hk,hr9⟩=>?_⟩,fun k x q' hk hps hx=>?_⟩
     ·rcases Nat.lt_or_ge k n with hlt|hge
      ·exact ⟨k,x,q',hlt,hr9⟩
      ·obtain rfl:k=n:=by omega
       rw [hp] at hr9
       obtain ⟨e,hx,_⟩:=hr9
       cases e
       exact absurd h4 hx
     ·rcases Nat.lt_or_ge k n with hlt|hge
      ·exact h2 k x q' hlt hps hx
      ·obtain rfl:k=n:=by omega
       rw [hp] at hps
       cases hps
       exact absurd h4 hx
    ·rw [if_neg h4] at h
     obtain ⟨h5,h6⟩:=fold_step ab r0 r h
     refine ⟨fun q=>?_,fun k x q' hk hps hx hq=>?_⟩
     ·rw [h5,List.mem_append,h1]
      constructor
      ·rintro (⟨k,x,q',hk,hr⟩|hm)
       ·exact ⟨k,x,q',by omega,hr⟩
       ·obtain ⟨q',hq,ho⟩:=List.mem_filterMap.1 hm
        unfold pieceO at ho
        by_cases hro:rmO (ownR ps n p) q'.1=true
        ·rw [if_pos hro] at ho
         exact ⟨n,p,q',by omega,hp,h4,hq,hro,(Option.some.inj ho).symm⟩
        ·rw [if_neg hro] at ho;cases ho
      ·rintro ⟨k,x,q',hk,hps,hx,hq,hro,e⟩
       rcases Nat.lt_or_ge k n with hlt|hge
       ·exact .inl ⟨k,x,q',hlt,hps,hx,hq,hro,e⟩
       ·obtain rfl:k=n:=by omega
        rw [hp] at hps
        cases hps
        refine .inr (List.mem_filterMap.2 ⟨q',hq,?_⟩)
        unfold pieceO
        rw [if_pos hro,e]
     ·rcases Nat.lt_or_ge k n with hlt|hge
      ·exact h2 k x q' hlt hps hx hq
      ·obtain rfl:k=n:=by omega
       rw [hp] at hps
       cases hps
       exact h6 q' hq
structure PcOk (q:Pc):Prop where
 rl:rlOk q.2.2.1 q.2.2.2
 base:∀ c,mt q.2.2.1 c=mt q.1.1 c
 rg:okRg q.1
 kd:q.2.1=1∨q.2.1=2∨q.2.1=3
structure AbOk (ab:List Pc) (see:ByteArray→Int×ByteArray):Prop where
 kd:∀ q∈ab,q.2.1=1∨q.2.1=2∨q.2.1=3
 ln:∀ q∈ab,q.2.1=3→rlOk q.2.2.1 q.2.2.2∧∀ c,mt q.1.1 c=true→mt q.2.2.1 c=true
 has:∀ c,(see c).1≠0→mt allP c=true→∃ q∈ab,inR q.1 c=true
 val:∀ c,∀ q∈ab,inR q.1 c=true→(see c).1=q.2.1∧(q.2.1=3→fO q.2.2.1 q.2.2.2 c=true∧fT q.2.2.1 q.2.2.2 c=(see c).2)
structure PsOk (ps:List Pc) (see:ByteArray→Int×ByteArray):Prop where
 ok:∀ q∈ps,PcOk q
 has:∀ c,(see c).1≠0→∃ q∈ps,inR q.1 c=true
 val:∀ c,∀ q∈ps,inR q.1 c=true→(see c).1=q.2.1∧fO q.2.2.1 q.2.2.2 c=true∧fT q.2.2.1 q.2.2.2 c=(see c).2
theorem PsOk.ab {ps:List Pc} {see:ByteArray→Int×ByteArray} (h:PsOk ps see):AbOk ps see :=
 ⟨fun q hq=>(h.ok q hq).kd,fun q hq _=>⟨(h.ok q hq).rl,fun c hc=>by rw [(h.ok q hq).base];exact hc⟩,fun c hc _=>h.has c hc,fun c q hq hi=>⟨(h.val c q hq hi).1,fun _=>(h.val c q hq hi).2⟩⟩
theorem pc0_ab:AbOk [pc0] (fun _=>(1,⟨#[]⟩)):=by
 refine ⟨fun q hq=>?_,fun q hq e=>?_,fun c _ hc=>⟨pc0,List.mem_singleton.2 rfl,?_⟩,fun c q hq hi=>?_⟩
 ·rw [List.mem_singleton.1 hq];exact .inl rfl
 ·rw [List.mem_singleton.1 hq] at e;cases e
 ·unfold inR pc0
  rw [hc]
  rfl
 ·rw [List.mem_singleton.1 hq]
  exact ⟨rfl,fun e=>by cases e⟩
theorem ownK_kd (k a:Int):ownK k a=1∨ownK k a=2:=by
 unfold ownK
 split
 ·exact .inl rfl
 ·exact .inr rfl
theorem first_of {p:Pn} {c:ByteArray} {u:List ByteArray} (hm:mt p c=true) (h:compsB c=viewN::u):p.1.getD 0 ⟨#[]⟩=viewN:=by
 have hok:checkP p.1 p.2=0:=(mt_iff.1 hm).2.1
 obtain ⟨_,hf,_⟩:=match_fil hm
 cases hp:p.1 with
 | nil=>have:=(check_zero hok).1;rw [hp] at this;cases this
 | cons x t =>
  have hpt:=(check_zero hok).2.2
  rw [hp] at hpt hf
  unfold partsOk at hpt
  rw [Bool.and_eq_true] at hpt
  obtain ⟨l',e,_⟩:=(Fil.lit (comp_42 hpt.1)).1 hf
  rw [h] at e
  cases e
  rfl
theorem some_path {p:Pn} (h:okPn p):∃ c,mt p c=true:=by
 obtain ⟨cs,l,hf⟩:=fil_some p.1 p.2
 exact ⟨_,fil_match h hf⟩
theorem ps_row {name:ByteArray} {ps:List Ln} {ab:List Pc} {see:ByteArray→Int×ByteArray} {r:List Pc} (hab:AbOk ab see) (hln:∀ p∈ps,lineOk p=true) (hn:comp name.data.toList=true) (h:rowQ name ps ab ps.length=some r) :
 PsOk r (fun c=>seeL name c (see c) (decS ps c)):=by
 obtain ⟨h1,h2⟩:=row_mem _ r h
 have one:∀ k p q' c,ps[k]? = some p→p.1≠4→q'∈ab→rmO (ownR ps k p) q'.1=true→inR (rmB (ownR ps k p) q'.1) c=true →
  fO (wideP name p q' (rmB (ownR ps k p) q'.1)).1 (wideP name p q' (rmB (ownR ps k p) q'.1)).2 c=true∧decS ps c=some p∧seeL name c (see c) (some p)=(kindP p q',fT (wideP name p q' (rmB (ownR ps k p) q'.1)).1 (wideP name p q' (rmB (ownR ps k p) q'.1)).2 c):=by
  intro k p q' c hk h4 hq ho hi
  have hlp:=(hln p (mG hk))
  obtain ⟨p1,p2,p3,p4⟩:=lineOk.parts hlp
  rw [rm_in ho,Bool.and_eq_true] at hi
  have hd:=dec_of hk hi.1
  have hv:=hab.val c q' hq hi.2
  have hkd:=hab.kd q' hq
  have hmp:mt p.2.1 c=true:=by
   have:=hi.1
   unfold inR ownR at this
   exact (Bool.and_eq_true _ _▸this).1
  have hs:seeL name c (see c) (some p)=if (see c).1=0∨p.1=4 then (0,⟨#[]⟩) else if (see c).1=3 then (3,(see c).2) else if p.1=3 then (3,fwdT p.2.1.1 p.2.1.2 p.2.2.1 p.2.2.2 c) else (ownK p.1 (see c).1,rootB++name++c.extract 6 c.size):=rfl
  rw [hs,hv.1,if_neg (by rintro (e|e)<;>omega)]
  unfold wideP kindP
  by_cases h3:q'.2.1=3
  ·obtain ⟨k2,k3⟩:=hv.2 h3
   rw [if_pos h3,if_pos h3,if_pos h3,k3]
   exact ⟨k2,hd,rfl⟩
  ·rw [if_neg h3,if_neg h3,if_neg h3]
   by_cases h5:p.1=3
   ·rw [if_pos h5,if_pos h5,if_pos h5]
    exact ⟨by rw [fO_mt (p4 h5).1];exact hmp,hd,rfl⟩
   ·rw [if_neg h5,if_neg h5,if_neg h5]
    have hg:inR (rmB (ownR ps k p) q'.1) c=true:=by rw [rm_in ho,hi.1,hi.2];rfl
    have hgm:mt (rmB (ownR ps k p) q'.1).1 c=true:=by
     unfold inR at hg
     exact (Bool.and_eq_true _ _▸hg).1
    obtain ⟨t,y,u,_,e2,_⟩:=first_view p2 hmp
    obtain ⟨k1,k2⟩:=sto_fwd (first_of hgm e2) hn hgm
    exact ⟨k1,hd,by rw [k2];rfl⟩
 have wd:∀ k p q',ps[k]? = some p→q'∈ab→rmO (ownR ps k p) q'.1=true →
  rlOk (wideP name p q' (rmB (ownR ps k p) q'.1)).1 (wideP name p q' (rmB (ownR ps k p) q'.1)).2∧∀ c,mt (rmB (ownR ps k p) q'.1).1 c=true→mt (wideP name p q' (rmB (ownR ps k p) q'.1)).1 c=true:=by
  intro k p q' hk hq ho
  obtain ⟨p1,p2,p3,p4⟩:=lineOk.parts (hln p (mG hk))
  have hmo:metO p.2.1 q'.1.1=true:=by
   unfold rmO at ho
   exact (Bool.and_eq_true _ _▸ho).1
  have hmt:∀ c,mt (rmB (ownR ps k p) q'.1).1 c=(mt p.2.1 c&&mt q'.1.1 c):=fun c=>met_mt hmo c
  unfold wideP
  by_cases h3:q'.2.1=3
  ·rw [if_pos h3]
   obtain ⟨k1,k2⟩:=hab.ln q' hq h3
   refine ⟨k1,fun c hc=>k2 c ?_⟩
   rw [hmt] at hc
   exact (Bool.and_eq_true _ _▸hc).2
  ·rw [if_neg h3]
   by_cases h5:p.1=3
   ·rw [if_pos h5]
    refine ⟨(p4 h5).1,fun c hc=>?_⟩
    rw [hmt] at hc
    exact (Bool.and_eq_true _ _▸hc).1
   ·rw [if_neg h5]
    exact ⟨sto_ok (met_ok hmo) hn,fun c hc=>hc⟩
 have nar:∀ k p q',ps[k]? = some p→p.1≠4→q'∈ab→rmO (ownR ps k p) q'.1=true →
  nrO (wideP name p q' (rmB (ownR ps k p) q'.1)).1 (wideP name p q' (rmB (ownR ps k p) q'.1)).2 (rmB (ownR ps k p) q'.1).1=true:=by
  intro k p q' hk h4 hq ho
  obtain ⟨k1,k2⟩:=wd k p q' hk hq ho
  have he:=(h2 k p q' (sI.1 hk).1 hk h4 hq).2 ho
  obtain ⟨c,hc⟩:=some_path (rm_ok ho).1
  cases hno:nrO (wideP name p q' (rmB (ownR ps k p) q'.1)).1 (wideP name p q' (rmB (ownR ps k p) q'.1)).2 (rmB (ownR ps k p) q'.1).1 with
  | true=>rfl
  | false =>
   have:=nr_no (s:=c) he hno
   rw [fO_mt k1,k2 c hc,hc] at this
   cases this
 have val:∀ c,∀ q∈r,inR q.1 c=true→(seeL name c (see c) (decS ps c)).1=q.2.1∧fO q.2.2.1 q.2.2.2 c=true∧fT q.2.2.1 q.2.2.2 c=(seeL name c (see c) (decS ps c)).2:=by
  intro c q hq hi
  obtain ⟨k,p,q',hlt,hk,h4,hq',ho,rfl⟩:=(h1 q).1 hq
  obtain ⟨k1,k2,k3⟩:=one k p q' c hk h4 hq' ho hi
  have hno:=nar k p q' hk h4 hq' ho
  rw [k2,k3]
  have hgm:mt (rmB (ownR ps k p) q'.1).1 c=true:=by
   have hi2:inR (rmB (ownR ps k p) q'.1) c=true:=hi
   unfold inR at hi2
   exact (Bool.and_eq_true _ _▸hi2).1
  obtain ⟨m1,m2⟩:=nr_yes (s:=c) hno
  rw [k1,hgm] at m1
  exact ⟨rfl,m1,m2 m1⟩
 refine ⟨fun q hq=>?_,fun c hc=>?_,val⟩
 ·obtain ⟨k,p,q',hlt,hk,h4,hq',ho,rfl⟩:=(h1 q).1 hq
  have hkd:=hab.kd q' hq'
  have p3:=(lineOk.parts (hln p (mG hk))).2.2.1
  have hno:=nar k p q' hk h4 hq' ho
  obtain ⟨k1,k2⟩:=wd k p q' hk hq' ho
  refine ⟨nr_ok hno,fun c=>?_,rm_ok ho,?_⟩
  ·show mt (nrL _ _ _) c=mt (rmB (ownR ps k p) q'.1).1 c
   rw [(nr_left hno).1,met_mt (nr_left hno).2]
   cases hm:mt (rmB (ownR ps k p) q'.1).1 c with
   | true=>rw [k2 c hm];rfl
   | false=>rw [Bool.and_false]
  ·show kindP p q'=1∨kindP p q'=2∨kindP p q'=3
   unfold kindP
   split
   ·exact .inr (.inr rfl)
   ·split
    ·exact .inr (.inr rfl)
    ·rcases ownK_kd p.1 q'.2.1 with e|e
     ·exact .inl e
     ·exact .inr (.inl e)
 ·have hc':(seeL name c (see c) (decS ps c)).1≠0:=hc
  cases hd:decS ps c with
  | none=>rw [hd] at hc';exact absurd rfl hc'
  | some p =>
   rw [hd] at hc'
   obtain ⟨k,hk,hi⟩:=dec_some hd
   have hlp:=hln p (mG hk)
   have hmp:mt p.2.1 c=true:=by
    unfold inR ownR at hi
    exact (Bool.and_eq_true _ _▸hi).1
   have hne:¬ ((see c).1=0∨p.1=4):=fun e=>by
    apply hc'
    show (if (see c).1=0∨p.1=4 then ((0:Int),(⟨#[]⟩:ByteArray)) else _).1=0
    rw [if_pos e]
   obtain ⟨q',hq',hi'⟩:=hab.has c (fun e=>hne (.inl e)) (mt_all (lineOk.parts hlp).2.1 hmp)
   have h4:p.1≠4:=fun e=>hne (.inr e)
   have hrm:=h2 k p q' (sI.1 hk).1 hk h4 hq'
   cases ho:rmO (ownR ps k p) q'.1 with
   | false =>
    have:=rm_none (c:=c) hrm.1 ho
    rw [hi,hi'] at this
    cases this
   | true=>exact ⟨_,(h1 _).2 ⟨k,p,q',(sI.1 hk).1,hk,h4,hq',ho,rfl⟩,by
    show inR (rmB (ownR ps k p) q'.1) c=true
    rw [rm_in ho,hi,hi']
    rfl⟩
theorem pcs_ok {l:List St} (hg:GoodS l):∀ (n i:Nat) (ps:List Pc),pcsF l n i=some ps→PsOk ps (fun c=>seeF l c n i)
 | 0,i,ps,h=>by cases h
 | n+1,i,ps,h=>by
  unfold pcsF at h
  cases hs:l[i]? with
  | none=>rw [hs] at h;cases h
  | some s =>
   rw [hs] at h
   simp only at h
   have hnm:comp s.1.data.toList=true:=by
    have:=(hg.nm i s hs).1
    unfold nameOk at this
    simp only [Bool.and_eq_true] at this
    exact this.1.1
   have hln:=(hg.ln i s hs).2
   have e:(fun c=>seeF l c (n+1) i)=fun c=>seeL s.1 c (match parS l i with|some p=>seeF l c n p|none=>(1,⟨#[]⟩)) (decS s.2.2 c):=by
    funext c
    show (match l[i]? with|none=>_|some s=>_)=_
    rw [hs]
    rfl
   rw [e]
   cases hp:parS l i with
   | none =>
    rw [hp] at h
    exact ps_row pc0_ab hln hnm h
   | some p =>
    rw [hp] at h
    simp only at h
    cases hq:pcsF l n p with
    | none=>rw [hq] at h;cases h
    | some ab =>
     rw [hq] at h
     exact ps_row (pcs_ok hg n p ab hq).ab hln hnm h
theorem ent_rel {q:Pc} {s c:ByteArray} (hq:PcOk q) (he:entE q=false):relN (entF q) s c↔(inR q.1 c=true∧fO q.2.2.1 q.2.2.2 c=true∧fT q.2.2.1 q.2.2.2 c=s):=by
 unfold relN entF
 show (inR (q.2.2.2,redH q.2.2.2 (nrsR q.2.2.1 q.2.2.2 q.1.2)) s=true∧fO q.2.2.2 q.2.2.1 s=true∧fT q.2.2.2 q.2.2.1 s=c)↔_
 rw [inR_red]
 constructor
 ·rintro ⟨h1,h2,h3⟩
  obtain ⟨h4,h5⟩:=f_turn h2 h3
  refine ⟨?_,h4,h5⟩
  unfold inR at h1 ⊢
  rw [nrs_any he h4 h5,Bool.and_eq_true] at h1
  rw [←hq.base,← fO_mt hq.rl,h4,Bool.true_and]
  exact h1.2
 ·rintro ⟨h1,h2,h3⟩
  obtain ⟨h4,h5⟩:=f_turn h2 h3
  refine ⟨?_,h4,h5⟩
  unfold inR at h1 ⊢
  rw [nrs_any he h2 h3,← fO_mt (rlOk_turn.1 hq.rl),h4,Bool.true_and]
  rw [Bool.and_eq_true] at h1
  exact h1.2
theorem vw_parts {l:List St} {n i:Nat} {ps:List Pc} (h:vwF l n i=some ps):pcsF l n i=some ps∧∀ q∈ps,entE q=false:=by
 unfold vwF at h
 cases hp:pcsF l n i with
 | none=>rw [hp] at h;cases h
 | some qs =>
  rw [hp] at h
  simp only at h
  by_cases ha:qs.any entE=true
  ·rw [if_pos ha] at h;cases h
  ·rw [if_neg ha] at h
   cases h
   rw [Bool.not_eq_true,List.any_eq_false] at ha
   exact ⟨rfl,fun q hq=>by simpa using ha q hq⟩
theorem vw_rel {l:List St} (hg:GoodS l) {n i:Nat} {ps:List Pc} (h:vwF l n i=some ps) (s c:ByteArray):relE (ps.map entF) s c↔((seeF l c n i).1≠0∧(seeF l c n i).2=s):=by
 obtain ⟨h1,h2⟩:=vw_parts h
 have hp:=pcs_ok hg n i ps h1
 unfold relE
 constructor
 ·rintro ⟨e,he,hr⟩
  obtain ⟨q,hq,rfl⟩:=List.mem_map.1 he
  obtain ⟨k1,k2,k3⟩:=(ent_rel (hp.ok q hq) (h2 q hq)).1 hr
  obtain ⟨m1,m2,m3⟩:=hp.val c q hq k1
  refine ⟨?_,m3.symm.trans k3⟩
  have m1':(seeF l c n i).1=q.2.1:=m1
  rw [m1']
  rcases (hp.ok q hq).kd with e|e|e<;>omega
 ·rintro ⟨h3,h4⟩
  obtain ⟨q,hq,hi⟩:=hp.has c h3
  obtain ⟨m1,m2,m3⟩:=hp.val c q hq hi
  exact ⟨_,List.mem_map.2 ⟨q,hq,rfl⟩,(ent_rel (hp.ok q hq) (h2 q hq)).2 ⟨hi,m2,m3.trans h4⟩⟩
end Go.Proofs.YtelkmeiepliecaaGreatDoor
